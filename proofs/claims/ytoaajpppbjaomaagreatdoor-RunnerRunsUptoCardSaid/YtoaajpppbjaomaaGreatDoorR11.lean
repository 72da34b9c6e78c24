/- Texts merged by program: parts Ch, Wb, Ci. -/
import Derived.Test.YtoaajpppbjaomaaGreatDoorR10
/- The reference's expressions. -/
namespace Go.Proofs.YtoaajpppbjaomaaGreatDoor
open Go.RowKit
structure ValQ (W : World) (lo F R M : Nat) (fv : Value) (base : Nat) (mem : Mem) (cnt : Int) (vs : Vars) (bad : Bool) (vv : Value) (x : Option (Option Int)) (w : World) (e : Ending) (w' : World) : Prop where
  ret : e = .returned (cellQ (x.getD none))
  fr : FrQ W w' lo F R M fv base mem cnt vs (bad || x.isNone) vv
  keep : KeepV lo [F] w w'
theorem two_new (w : World) (o1 o2 : Obj) (w2 : World) (hw : w2 = (w.alloc o1).alloc o2) : Below w.heap.size w w2 ∧ w2.heap[w.heap.size]? = some o1 ∧ w2.heap[w.heap.size + 1]? = some o2 := by
  have s1 : (w.alloc o1).heap.size = w.heap.size + 1 := by simp
  subst hw
  refine ⟨((Below.refl _ _).alloc (Nat.le_refl _) _).alloc (by rw [s1]; omega) _, ?_, ?_⟩
  · rw [heap_alloc_lt (by rw [s1]; omega)]; exact heap_alloc_at _ _
  · rw [← s1]; exact heap_alloc_at _ _
theorem FrQ.setNew {W w : World} {lo F R M : Nat} {fv : Value} {base : Nat} {mem : Mem} {cnt : Int} {vs : Vars} {bad : Bool} {vv : Value} (h : FrQ W w lo F R M fv base mem cnt vs bad vv) {S : List Nat} {w' : World} (hk : Keep S w w') (hS : ∀ x, x ∈ S → x ≠ F ∧ x ≠ R ∧ x ≠ M ∧ W.heap.size ≤ x ∧ vv.ownBlock ≠ some x) : FrQ W w' lo F R M fv base mem cnt vs bad vv :=
  { h with
    rm := { h.rm with
      below := hk.below h.rm.below h.rm.below.size (fun x hx => (hS x hx).2.2.2.1)
      hR := (hk.block R (lt_of_block h.rm.hR) (fun hm => (hS R hm).2.1 rfl)).trans h.rm.hR
      hM := (hk.block M (lt_of_block h.rm.hM) (fun hm => (hS M hm).2.2.1 rfl)).trans h.rm.hM }
    hF := (hk.block F (lt_of_block h.hF) (fun hm => (hS F hm).1 rfl)).trans h.hF
    own := by
      refine ⟨h.own.1, ?_⟩
      rcases h.own.2 with h2 | ⟨g, cap, cur, hv, hg, hh, r⟩
      · exact .inl h2
      · exact .inr ⟨g, cap, cur, hv, hg, (hk.block g (lt_of_block hh) (fun hm => (hS g hm).2.2.2.2 (by rw [hv]; rfl))).trans hh, r⟩ }
/-- the result's cell is written -/
theorem put_cell {W w : World} {lo F R M C : Nat} {fv : Value} {base : Nat} {mem : Mem} {cnt : Int} {vs : Vars} {bad : Bool} {vv : Value} (h : FrQ W w lo F R M fv base mem cnt vs bad vv) {x y : Value} (hC : w.heap[C]? = some (.cells #[x, y] 75 (0, 0))) (hW : lo ≤ C) (hCR : C ≠ F) (a b : Value) (w' : World)
    (hw : w' = (w.setCell ⟨C, 0, none⟩ a).setCell ⟨C, 1, none⟩ b) :
    FrQ W w' lo F R M fv base mem cnt vs bad vv ∧ w'.cell? ⟨C, 0, none⟩ = some a ∧ w'.cell? ⟨C, 1, none⟩ = some b ∧ KeepV lo [F, C] w w' ∧ w'.heap[C]? = some (.cells #[a, b] 75 (0, 0)) := by
  have hk : Keep [C] w w' := by rw [hw]; exact ((Keep.refl _ _).setCell (.inl (by simp)) _).setCell (.inl (by simp)) _
  have hb : w'.heap[C]? = some (.cells #[a, b] 75 (0, 0)) := by rw [hw, heap_setCell_eq (heap_setCell_eq hC 0 a) 1 b]; rfl
  refine ⟨h.setNew hk (fun z hz => ?_), cellB' hb 0 rfl, cellB' hb 1 rfl, (KeepV.of_keep hk).mono (by simp), hb⟩
  have := h.ltR
  have := h.ltM
  have := h.geL
  simp at hz
  subst hz
  refine ⟨hCR, by omega, by omega, by omega, fun hg => ?_⟩
  rcases h.own.2 with ⟨e, _⟩ | ⟨g, cap, cur, e, _, hb', _⟩
  · rw [e] at hg; simp [Value.ownBlock] at hg
  · rw [e] at hg
    simp only [Value.ownBlock, Option.some.injEq] at hg
    subst hg
    rw [hC] at hb'
    simp only [Option.some.injEq, Obj.cells.injEq] at hb'
    exact absurd hb'.2.1 (by decide)
/-- what came later is nobody's -/
theorem KeepV.drop {lo : Nat} {S : List Nat} {C : Nat} {w w' : World} (h : KeepV lo (S ++ [C]) w w') (hC : w.heap.size ≤ C) : KeepV lo S w w' :=
  ⟨h.os, h.tape, h.output, h.size, fun k o hk hn ho => h.block k o hk (fun hm => by
    rcases List.mem_append.1 hm with h1 | h1
    · exact hn h1
    · have := (Array.getElem?_eq_some_iff.1 hk).1
      simp at h1
      omega) ho⟩
theorem FrQ.setBad {W w : World} {lo F R M : Nat} {fv : Value} {base : Nat} {mem : Mem} {cnt : Int} {vs : Vars} {bad : Bool} {vv : Value} (h : FrQ W w lo F R M fv base mem cnt vs bad vv) :
    FrQ W (w.setCell ⟨F, 3, none⟩ (.bool true)) lo F R M fv base mem cnt vs true vv ∧ Keep [F] w (w.setCell ⟨F, 3, none⟩ (.bool true)) := by
  have hk : Keep [F] w (w.setCell ⟨F, 3, none⟩ (.bool true)) := (Keep.refl _ _).setCell (.inl (by simp)) _
  refine ⟨{ h with
    rm := { h.rm with
      below := hk.below h.rm.below h.rm.below.size (fun x hx => by have := h.geF; have := h.geL; simp at hx; omega)
      hR := (hk.block R (lt_of_block h.rm.hR) (by have := h.FR; simp; omega)).trans h.rm.hR
      hM := (hk.block M (lt_of_block h.rm.hM) (by have := h.FM; simp; omega)).trans h.rm.hM }
    hF := by rw [heap_setCell_eq h.hF]; rfl
    own := by
      refine ⟨h.own.1, ?_⟩
      rcases h.own.2 with h2 | ⟨g, cap, cur, hv, hg, hh, r⟩
      · exact .inl h2
      · exact .inr ⟨g, cap, cur, hv, hg, (hk.block g (lt_of_block hh) (fun hm => by
          simp at hm
          subst hm
          exact h.Fown (by rw [hv]; rfl))).trans hh, r⟩ }, hk⟩
set_option maxRecDepth 100000 in
set_option maxHeartbeats 1000000 in
theorem vq_int {W w : World} {lo F R M : Nat} {fv : Value} {base : Nat} {mem : Mem} {cnt : Int} {vs : Vars} {bad : Bool} {vv : Value} (h : FrQ W w lo F R M fv base mem cnt vs bad vv) (name : ByteArray) (v : Int) (vc : Value) (_hvc : vc.oneCell' = true) (A : Option Addr) (c : Nat) :
    Calls Tryz.prog 66 #[.pointer (some ⟨F, 0, none⟩), .agg #[.int .i64 1, .string name, .int .i64 v, vc, .slice A 0 c]] w (ValQ W lo F R M fv base mem cnt vs bad vv (some (some v)) w) := by
  have hlo : lo ≤ w.heap.size := by have := lt_of_block h.hF; have := h.geF; omega
  have hFl := lt_of_block h.hF
  go_enter Tryz.func66, Tryz.ntmps66
  go_upto_region 1 with fail
  obtain ⟨w2, hw2⟩ : ∃ w2, w2 = (w.alloc (Obj.cells #[.int .i64 1, .string name, .int .i64 v, vc, .slice A 0 c] 85)).alloc (Obj.cells #[.bool false, .int .i64 0] 75) := ⟨_, rfl⟩
  rw [← hw2]
  obtain ⟨hb2, hE, hC⟩ := two_new _ _ _ _ hw2
  clear hw2
  have H := Lib.hid (h.on hb2)
  have HK := Lib.hid (KeepV.of_below (lo := lo) (S := [F]) hb2)
  have HE := Lib.hid hE
  have HC := Lib.hid hC
  have hsz := hb2.size
  have e0 := cellB' hE 0 rfl
  have e1 := cellB' hE 1 rfl
  have e2 := cellB' hE 2 rfl
  have e4 := cellB' hE 4 rfl
  have c0 := cellB' hC 0 rfl
  have c1 := cellB' hC 1 rfl
  have z0 := frozB hC 0
  have z1 := frozB hC 1
  have hEl := lt_of_block hE
  have hCl := lt_of_block hC
  clear h hb2 hE hC
  go_wp2_with fail
  obtain ⟨wf, hwf⟩ : ∃ wf, wf = (w2.setCell ⟨w.heap.size + 1, 0, none⟩ (.bool true)).setCell ⟨w.heap.size + 1, 1, none⟩ (.int .i64 v) := ⟨_, rfl⟩
  rw [← hwf]
  obtain ⟨p1, p2, p3, p4, -⟩ := put_cell H.out HC.out (by omega) (by omega) _ _ _ hwf
  refine bodyPost_ret (v := cellQ (some v)) (by simp [results, Tryz.results66, go_sem, p2, p3, cellQ]) rfl ?_
  exact ⟨rfl, by simpa using p1, ((HK.out.mono (by simp)).trans p4).drop (S := [F]) (by omega)⟩
set_option maxRecDepth 100000 in
set_option maxHeartbeats 1000000 in
theorem vq_off0 {W w : World} {lo F R M : Nat} {fv : Value} {base : Nat} {mem : Mem} {cnt : Int} {vs : Vars} {bad : Bool} {vv : Value} (h : FrQ W w lo F R M fv base mem cnt vs bad vv) (name : ByteArray) (v : Int) (vc : Value) (_hvc : vc.oneCell' = true) (A : Option Addr) (c : Nat) (op : Int) (ho : op ≠ 1 ∧ op ≠ 4 ∧ op ≠ 16) :
    Calls Tryz.prog 66 #[.pointer (some ⟨F, 0, none⟩), .agg #[.int .i64 op, .string name, .int .i64 v, vc, .slice A 0 c]] w (ValQ W lo F R M fv base mem cnt vs bad vv (some none) w) := by
  have h1 : (op == 1) = false := by simp [ho.1]
  have h2 : (op == 4) = false := by simp [ho.2.1]
  have h3 : (op == 16) = false := by simp [ho.2.2]
  clear ho
  have hlo : lo ≤ w.heap.size := by have := lt_of_block h.hF; have := h.geF; omega
  have hFl := lt_of_block h.hF
  go_enter Tryz.func66, Tryz.ntmps66
  go_upto_region 1 with fail
  obtain ⟨w2, hw2⟩ : ∃ w2, w2 = (w.alloc (Obj.cells #[.int .i64 op, .string name, .int .i64 v, vc, .slice A 0 c] 85)).alloc (Obj.cells #[.bool false, .int .i64 0] 75) := ⟨_, rfl⟩
  rw [← hw2]
  obtain ⟨hb2, hE, hC⟩ := two_new _ _ _ _ hw2
  clear hw2
  have H := Lib.hid (h.on hb2)
  have HK := Lib.hid (KeepV.of_below (lo := lo) (S := [F]) hb2)
  have HE := Lib.hid hE
  have HC := Lib.hid hC
  have hsz := hb2.size
  have e0 := cellB' hE 0 rfl
  have e1 := cellB' hE 1 rfl
  have e2 := cellB' hE 2 rfl
  have e4 := cellB' hE 4 rfl
  have c0 := cellB' hC 0 rfl
  have c1 := cellB' hC 1 rfl
  have z0 := frozB hC 0
  have z1 := frozB hC 1
  have hEl := lt_of_block hE
  have hCl := lt_of_block hC
  clear h hb2 hE hC
  go_wp2_with fail
  all_goals
    obtain ⟨wf, hwf⟩ : ∃ wf, wf = (w2.setCell ⟨w.heap.size + 1, 0, none⟩ (.bool false)).setCell ⟨w.heap.size + 1, 1, none⟩ (.int .i64 0) := ⟨_, rfl⟩
    rw [← hwf]
    obtain ⟨p1, p2, p3, p4, -⟩ := put_cell H.out HC.out (by omega) (by omega) _ _ _ hwf
    refine bodyPost_ret (v := cellQ none) (by simp [results, Tryz.results66, go_sem, p2, p3, cellQ]) rfl ?_
    exact ⟨rfl, by simpa using p1, ((HK.out.mono (by simp)).trans p4).drop (S := [F]) (by omega)⟩
set_option maxRecDepth 100000 in
set_option maxHeartbeats 1000000 in
theorem vq_offl {W w : World} {lo F R M : Nat} {fv : Value} {base : Nat} {mem : Mem} {cnt : Int} {vs : Vars} {bad : Bool} {vv : Value} (h : FrQ W w lo F R M fv base mem cnt vs bad vv) (name : ByteArray) (v : Int) (vc : Value) (_hvc : vc.oneCell' = true) (A : Option Addr) (c : Nat) (op : Int) (l : Nat) (hl : l ≤ 1048576) (ho : offL l op) :
    Calls Tryz.prog 66 #[.pointer (some ⟨F, 0, none⟩), .agg #[.int .i64 op, .string name, .int .i64 v, vc, .slice A l c]] w (ValQ W lo F R M fv base mem cnt vs bad vv (some none) w) := by
  have h0 : ((l : Int) == 0) = false := by rw [beq_eq_false_iff_ne]; unfold offL at ho; omega
  rcases ho with ⟨rfl, ho⟩ | ⟨rfl, ho⟩ | ⟨rfl, ho⟩ | ho
  · have h1 : (op == 5) = false := by simp [ho]
    clear ho
    have hlo : lo ≤ w.heap.size := by have := lt_of_block h.hF; have := h.geF; omega
    have hFl := lt_of_block h.hF
    go_enter Tryz.func66, Tryz.ntmps66
    go_upto_region 1 with fail
    obtain ⟨w2, hw2⟩ : ∃ w2, w2 = (w.alloc (Obj.cells #[.int .i64 op, .string name, .int .i64 v, vc, .slice A 1 c] 85)).alloc (Obj.cells #[.bool false, .int .i64 0] 75) := ⟨_, rfl⟩
    rw [← hw2]
    obtain ⟨hb2, hE, hC⟩ := two_new _ _ _ _ hw2
    clear hw2
    have H := Lib.hid (h.on hb2)
    have HK := Lib.hid (KeepV.of_below (lo := lo) (S := [F]) hb2)
    have HE := Lib.hid hE
    have HC := Lib.hid hC
    have hsz := hb2.size
    have e0 := cellB' hE 0 rfl
    have e1 := cellB' hE 1 rfl
    have e2 := cellB' hE 2 rfl
    have e4 := cellB' hE 4 rfl
    have c0 := cellB' hC 0 rfl
    have c1 := cellB' hC 1 rfl
    have z0 := frozB hC 0
    have z1 := frozB hC 1
    have hEl := lt_of_block hE
    have hCl := lt_of_block hC
    clear h hb2 hE hC
    go_wp2_with fail
    all_goals
      obtain ⟨wf, hwf⟩ : ∃ wf, wf = (w2.setCell ⟨w.heap.size + 1, 0, none⟩ (.bool false)).setCell ⟨w.heap.size + 1, 1, none⟩ (.int .i64 0) := ⟨_, rfl⟩
      rw [← hwf]
      obtain ⟨p1, p2, p3, p4, -⟩ := put_cell H.out HC.out (by omega) (by omega) _ _ _ hwf
      refine bodyPost_ret (v := cellQ none) (by simp [results, Tryz.results66, go_sem, p2, p3, cellQ]) rfl ?_
      exact ⟨rfl, by simpa using p1, ((HK.out.mono (by simp)).trans p4).drop (S := [F]) (by omega)⟩
  · have h1 : (op == 6) = false := by simp [ho]
    clear ho
    have hlo : lo ≤ w.heap.size := by have := lt_of_block h.hF; have := h.geF; omega
    have hFl := lt_of_block h.hF
    go_enter Tryz.func66, Tryz.ntmps66
    go_upto_region 1 with fail
    obtain ⟨w2, hw2⟩ : ∃ w2, w2 = (w.alloc (Obj.cells #[.int .i64 op, .string name, .int .i64 v, vc, .slice A 2 c] 85)).alloc (Obj.cells #[.bool false, .int .i64 0] 75) := ⟨_, rfl⟩
    rw [← hw2]
    obtain ⟨hb2, hE, hC⟩ := two_new _ _ _ _ hw2
    clear hw2
    have H := Lib.hid (h.on hb2)
    have HK := Lib.hid (KeepV.of_below (lo := lo) (S := [F]) hb2)
    have HE := Lib.hid hE
    have HC := Lib.hid hC
    have hsz := hb2.size
    have e0 := cellB' hE 0 rfl
    have e1 := cellB' hE 1 rfl
    have e2 := cellB' hE 2 rfl
    have e4 := cellB' hE 4 rfl
    have c0 := cellB' hC 0 rfl
    have c1 := cellB' hC 1 rfl
    have z0 := frozB hC 0
    have z1 := frozB hC 1
    have hEl := lt_of_block hE
    have hCl := lt_of_block hC
    clear h hb2 hE hC
    go_wp2_with fail
    all_goals
      obtain ⟨wf, hwf⟩ : ∃ wf, wf = (w2.setCell ⟨w.heap.size + 1, 0, none⟩ (.bool false)).setCell ⟨w.heap.size + 1, 1, none⟩ (.int .i64 0) := ⟨_, rfl⟩
      rw [← hwf]
      obtain ⟨p1, p2, p3, p4, -⟩ := put_cell H.out HC.out (by omega) (by omega) _ _ _ hwf
      refine bodyPost_ret (v := cellQ none) (by simp [results, Tryz.results66, go_sem, p2, p3, cellQ]) rfl ?_
      exact ⟨rfl, by simpa using p1, ((HK.out.mono (by simp)).trans p4).drop (S := [F]) (by omega)⟩
  · have h1 : (op == 7) = false := by simp [ho]
    clear ho
    have hlo : lo ≤ w.heap.size := by have := lt_of_block h.hF; have := h.geF; omega
    have hFl := lt_of_block h.hF
    go_enter Tryz.func66, Tryz.ntmps66
    go_upto_region 1 with fail
    obtain ⟨w2, hw2⟩ : ∃ w2, w2 = (w.alloc (Obj.cells #[.int .i64 op, .string name, .int .i64 v, vc, .slice A 3 c] 85)).alloc (Obj.cells #[.bool false, .int .i64 0] 75) := ⟨_, rfl⟩
    rw [← hw2]
    obtain ⟨hb2, hE, hC⟩ := two_new _ _ _ _ hw2
    clear hw2
    have H := Lib.hid (h.on hb2)
    have HK := Lib.hid (KeepV.of_below (lo := lo) (S := [F]) hb2)
    have HE := Lib.hid hE
    have HC := Lib.hid hC
    have hsz := hb2.size
    have e0 := cellB' hE 0 rfl
    have e1 := cellB' hE 1 rfl
    have e2 := cellB' hE 2 rfl
    have e4 := cellB' hE 4 rfl
    have c0 := cellB' hC 0 rfl
    have c1 := cellB' hC 1 rfl
    have z0 := frozB hC 0
    have z1 := frozB hC 1
    have hEl := lt_of_block hE
    have hCl := lt_of_block hC
    clear h hb2 hE hC
    go_wp2_with fail
    all_goals
      obtain ⟨wf, hwf⟩ : ∃ wf, wf = (w2.setCell ⟨w.heap.size + 1, 0, none⟩ (.bool false)).setCell ⟨w.heap.size + 1, 1, none⟩ (.int .i64 0) := ⟨_, rfl⟩
      rw [← hwf]
      obtain ⟨p1, p2, p3, p4, -⟩ := put_cell H.out HC.out (by omega) (by omega) _ _ _ hwf
      refine bodyPost_ret (v := cellQ none) (by simp [results, Tryz.results66, go_sem, p2, p3, cellQ]) rfl ?_
      exact ⟨rfl, by simpa using p1, ((HK.out.mono (by simp)).trans p4).drop (S := [F]) (by omega)⟩
  · have h1 : ((l : Int) == 1) = false := by rw [beq_eq_false_iff_ne]; omega
    have h2 : ((l : Int) == 2) = false := by rw [beq_eq_false_iff_ne]; omega
    have h3 : ((l : Int) == 3) = false := by rw [beq_eq_false_iff_ne]; omega
    have hlo : lo ≤ w.heap.size := by have := lt_of_block h.hF; have := h.geF; omega
    have hFl := lt_of_block h.hF
    go_enter Tryz.func66, Tryz.ntmps66
    go_upto_region 1 with fail
    obtain ⟨w2, hw2⟩ : ∃ w2, w2 = (w.alloc (Obj.cells #[.int .i64 op, .string name, .int .i64 v, vc, .slice A l c] 85)).alloc (Obj.cells #[.bool false, .int .i64 0] 75) := ⟨_, rfl⟩
    rw [← hw2]
    obtain ⟨hb2, hE, hC⟩ := two_new _ _ _ _ hw2
    clear hw2
    have H := Lib.hid (h.on hb2)
    have HK := Lib.hid (KeepV.of_below (lo := lo) (S := [F]) hb2)
    have HE := Lib.hid hE
    have HC := Lib.hid hC
    have hsz := hb2.size
    have e0 := cellB' hE 0 rfl
    have e1 := cellB' hE 1 rfl
    have e2 := cellB' hE 2 rfl
    have e4 := cellB' hE 4 rfl
    have c0 := cellB' hC 0 rfl
    have c1 := cellB' hC 1 rfl
    have z0 := frozB hC 0
    have z1 := frozB hC 1
    have hEl := lt_of_block hE
    have hCl := lt_of_block hC
    clear h hb2 hE hC
    go_wp2_with fail
    all_goals
      obtain ⟨wf, hwf⟩ : ∃ wf, wf = (w2.setCell ⟨w.heap.size + 1, 0, none⟩ (.bool false)).setCell ⟨w.heap.size + 1, 1, none⟩ (.int .i64 0) := ⟨_, rfl⟩
      rw [← hwf]
      obtain ⟨p1, p2, p3, p4, -⟩ := put_cell H.out HC.out (by omega) (by omega) _ _ _ hwf
      refine bodyPost_ret (v := cellQ none) (by simp [results, Tryz.results66, go_sem, p2, p3, cellQ]) rfl ?_
      exact ⟨rfl, by simpa using p1, ((HK.out.mono (by simp)).trans p4).drop (S := [F]) (by omega)⟩
set_option maxRecDepth 100000 in
set_option maxHeartbeats 1000000 in
theorem vq_var {W w : World} {lo F R M : Nat} {fv : Value} {base : Nat} {mem : Mem} {cnt : Int} {vs : Vars} {bad : Bool} {vv : Value} (h : FrQ W w lo F R M fv base mem cnt vs bad vv) (name : ByteArray) (v : Int) (vc : Value) (_hvc : vc.oneCell' = true) (A : Option Addr) (c : Nat) :
    Calls Tryz.prog 66 #[.pointer (some ⟨F, 0, none⟩), .agg #[.int .i64 4, .string name, .int .i64 v, vc, .slice A 0 c]] w (ValQ W lo F R M fv base mem cnt vs bad vv (some (getv vs name)) w) := by
  have hlo : lo ≤ w.heap.size := by have := lt_of_block h.hF; have := h.geF; omega
  have hFl := lt_of_block h.hF
  go_enter Tryz.func66, Tryz.ntmps66
  go_upto_region 1 with fail
  obtain ⟨w2, hw2⟩ : ∃ w2, w2 = (w.alloc (Obj.cells #[.int .i64 4, .string name, .int .i64 v, vc, .slice A 0 c] 85)).alloc (Obj.cells #[.bool false, .int .i64 0] 75) := ⟨_, rfl⟩
  rw [← hw2]
  obtain ⟨hb2, hE, hC⟩ := two_new _ _ _ _ hw2
  clear hw2
  have H := Lib.hid (h.on hb2)
  have HK := Lib.hid (KeepV.of_below (lo := lo) (S := [F]) hb2)
  have HE := Lib.hid hE
  have HC := Lib.hid hC
  have hsz := hb2.size
  have e0 := cellB' hE 0 rfl
  have e1 := cellB' hE 1 rfl
  have e2 := cellB' hE 2 rfl
  have e4 := cellB' hE 4 rfl
  have c0 := cellB' hC 0 rfl
  have c1 := cellB' hC 1 rfl
  have z0 := frozB hC 0
  have z1 := frozB hC 1
  have hEl := lt_of_block hE
  have hCl := lt_of_block hC
  clear h hb2 hE hC
  go_wp2_with fail
  refine (get_q H.out name).mono ?_
  rintro e w3 ⟨rfl, hb3⟩
  have H3 := Lib.hid (H.out.on hb3)
  have HK3 := Lib.hid (HK.out.trans (KeepV.of_below hb3))
  have HC3 := Lib.hid ((hb3.block _ hCl).trans HC.out)
  have c0 := cellB' HC3.out 0 rfl
  have c1 := cellB' HC3.out 1 rfl
  have z0 := frozB HC3.out 0
  have z1 := frozB HC3.out 1
  have hCl3 := lt_of_block HC3.out
  have hs3 := hb3.size
  clear hb3
  unfold cellQ
  go_wp2_with fail
  obtain ⟨wf, hwf⟩ : ∃ wf, wf = (w3.setCell ⟨w.heap.size + 1, 0, none⟩ (.bool (getv vs name).isSome)).setCell ⟨w.heap.size + 1, 1, none⟩ (.int .i64 ((getv vs name).getD 0)) := ⟨_, rfl⟩
  rw [← hwf]
  obtain ⟨p1, p2, p3, p4, -⟩ := put_cell H3.out HC3.out (by omega) (by omega) _ _ _ hwf
  refine bodyPost_ret (v := cellQ (getv vs name)) (by simp [results, Tryz.results66, go_sem, p2, p3, cellQ]) rfl ?_
  exact ⟨rfl, by simpa using p1, ((HK3.out.mono (by simp)).trans p4).drop (S := [F]) (by omega)⟩
set_option maxRecDepth 100000 in
set_option maxHeartbeats 1000000 in
theorem vq_mem {W w : World} {lo F R M : Nat} {fv : Value} {base : Nat} {mem : Mem} {cnt : Int} {vs : Vars} {bad : Bool} {vv : Value} (h : FrQ W w lo F R M fv base mem cnt vs bad vv) (name : ByteArray) (v : Int) (vc : Value) (_hvc : vc.oneCell' = true) (A : Option Addr) (c : Nat) (hv : 0 ≤ v ∧ v < (mem.length : Int) - base) (o : Option Int) (ho : mem[base + v.toNat]? = some o) :
    Calls Tryz.prog 66 #[.pointer (some ⟨F, 0, none⟩), .agg #[.int .i64 16, .string name, .int .i64 v, vc, .slice A 0 c]] w (ValQ W lo F R M fv base mem cnt vs bad vv (some o) w) := by
  have hbl := h.blen
  have hml := h.rm.mlen
  obtain ⟨k, rfl⟩ := Int.eq_ofNat_of_zero_le hv.1
  simp only [Int.toNat_natCast] at ho
  have hPL := Lib.hid (show placeF base mem.length (k : Int) = ((base + k : Nat) : Int) by unfold placeF; rw [if_pos hv]; omega)
  have hk : base + k < mem.length := by omega
  clear hv
  have hlo : lo ≤ w.heap.size := by have := lt_of_block h.hF; have := h.geF; omega
  have hFl := lt_of_block h.hF
  go_enter Tryz.func66, Tryz.ntmps66
  go_upto_region 1 with fail
  obtain ⟨w2, hw2⟩ : ∃ w2, w2 = (w.alloc (Obj.cells #[.int .i64 16, .string name, .int .i64 (k : Int), vc, .slice A 0 c] 85)).alloc (Obj.cells #[.bool false, .int .i64 0] 75) := ⟨_, rfl⟩
  rw [← hw2]
  obtain ⟨hb2, hE, hC⟩ := two_new _ _ _ _ hw2
  clear hw2
  have H := Lib.hid (h.on hb2)
  have HK := Lib.hid (KeepV.of_below (lo := lo) (S := [F]) hb2)
  have HE := Lib.hid hE
  have HC := Lib.hid hC
  have hsz := hb2.size
  have e0 := cellB' hE 0 rfl
  have e1 := cellB' hE 1 rfl
  have e2 := cellB' hE 2 rfl
  have e4 := cellB' hE 4 rfl
  have c0 := cellB' hC 0 rfl
  have c1 := cellB' hC 1 rfl
  have z0 := frozB hC 0
  have z1 := frozB hC 1
  have hEl := lt_of_block hE
  have hCl := lt_of_block hC
  clear h hb2 hE hC
  go_wp2_with fail
  refine (place_q H.out (k : Int) (by unfold I64; omega)).mono ?_
  rintro e w3 ⟨rfl, hb3⟩
  rw [hPL.out]
  have H3 := Lib.hid (H.out.on hb3)
  have HK3 := Lib.hid (HK.out.trans (KeepV.of_below hb3))
  have HC3 := Lib.hid ((hb3.block _ hCl).trans HC.out)
  have c0 := cellB' HC3.out 0 rfl
  have c1 := cellB' HC3.out 1 rfl
  have z0 := frozB HC3.out 0
  have z1 := frozB HC3.out 1
  have hCl3 := lt_of_block HC3.out
  have hs3 := hb3.size
  have f0 := H3.out.c0
  have r1 := H3.out.r1
  have hm := H3.out.m ho
  have m0 := hm.1
  have m1 := hm.2
  have hFl3 := lt_of_block H3.out.hF
  have hRl3 := lt_of_block H3.out.rm.hR
  have hMl3 := lt_of_block H3.out.rm.hM
  clear hb3 hm
  go_wp2_with fail
  obtain ⟨wf, hwf⟩ : ∃ wf, wf = (w3.setCell ⟨w.heap.size + 1, 0, none⟩ (.bool o.isSome)).setCell ⟨w.heap.size + 1, 1, none⟩ (.int .i64 (o.getD 0)) := ⟨_, rfl⟩
  rw [← hwf]
  obtain ⟨p1, p2, p3, p4, -⟩ := put_cell H3.out HC3.out (by omega) (by omega) _ _ _ hwf
  refine bodyPost_ret (v := cellQ o) (by simp [results, Tryz.results66, go_sem, p2, p3, cellQ]) rfl ?_
  exact ⟨rfl, by simpa using p1, ((HK3.out.mono (by simp)).trans p4).drop (S := [F]) (by omega)⟩
set_option maxRecDepth 100000 in
set_option maxHeartbeats 1000000 in
theorem vq_memT {W w : World} {lo F R M : Nat} {fv : Value} {base : Nat} {mem : Mem} {cnt : Int} {vs : Vars} {bad : Bool} {vv : Value} (h : FrQ W w lo F R M fv base mem cnt vs bad vv) (name : ByteArray) (v : Int) (vc : Value) (_hvc : vc.oneCell' = true) (A : Option Addr) (c : Nat) (hvI : I64 v) (hv : ¬ (0 ≤ v ∧ v < (mem.length : Int) - base)) :
    Calls Tryz.prog 66 #[.pointer (some ⟨F, 0, none⟩), .agg #[.int .i64 16, .string name, .int .i64 v, vc, .slice A 0 c]] w (ValQ W lo F R M fv base mem cnt vs bad vv none w) := by
  have hPL := Lib.hid (show placeF base mem.length v = -1 by unfold placeF; rw [if_neg hv])
  have HVI := Lib.hid hvI
  clear hv hvI
  have hlo : lo ≤ w.heap.size := by have := lt_of_block h.hF; have := h.geF; omega
  have hFl := lt_of_block h.hF
  go_enter Tryz.func66, Tryz.ntmps66
  go_upto_region 1 with fail
  obtain ⟨w2, hw2⟩ : ∃ w2, w2 = (w.alloc (Obj.cells #[.int .i64 16, .string name, .int .i64 v, vc, .slice A 0 c] 85)).alloc (Obj.cells #[.bool false, .int .i64 0] 75) := ⟨_, rfl⟩
  rw [← hw2]
  obtain ⟨hb2, hE, hC⟩ := two_new _ _ _ _ hw2
  clear hw2
  have H := Lib.hid (h.on hb2)
  have HK := Lib.hid (KeepV.of_below (lo := lo) (S := [F]) hb2)
  have HE := Lib.hid hE
  have HC := Lib.hid hC
  have hsz := hb2.size
  have e0 := cellB' hE 0 rfl
  have e1 := cellB' hE 1 rfl
  have e2 := cellB' hE 2 rfl
  have e4 := cellB' hE 4 rfl
  have c0 := cellB' hC 0 rfl
  have c1 := cellB' hC 1 rfl
  have z0 := frozB hC 0
  have z1 := frozB hC 1
  have hEl := lt_of_block hE
  have hCl := lt_of_block hC
  clear h hb2 hE hC
  go_wp2_with fail
  refine (place_q H.out v HVI.out).mono ?_
  rintro e w3 ⟨rfl, hb3⟩
  rw [hPL.out]
  have H3 := Lib.hid (H.out.on hb3)
  have HK3 := Lib.hid (HK.out.trans (KeepV.of_below hb3))
  have HC3 := Lib.hid ((hb3.block _ hCl).trans HC.out)
  have hs3 := hb3.size
  have f3 := H3.out.c3
  have zf3 := frozB H3.out.hF 3
  have hFl3 := lt_of_block H3.out.hF
  have c0 := cellB' HC3.out 0 rfl
  have c1 := cellB' HC3.out 1 rfl
  have z0 := frozB HC3.out 0
  have z1 := frozB HC3.out 1
  have hCl3 := lt_of_block HC3.out
  clear hb3
  go_wp2_with fail
  obtain ⟨w4, hw4⟩ : ∃ w4, w4 = w3.setCell ⟨F, 3, none⟩ (.bool true) := ⟨_, rfl⟩
  rw [← hw4]
  obtain ⟨h4, hk4⟩ := H3.out.setBad
  rw [← hw4] at h4 hk4
  have HC4 := Lib.hid ((hk4.block _ hCl3 (by simp; omega)).trans HC3.out)
  have hs4 := hk4.size
  have HK4 := Lib.hid (HK3.out.trans (KeepV.of_keep hk4))
  obtain ⟨wf, hwf⟩ : ∃ wf, wf = (w4.setCell ⟨w.heap.size + 1, 0, none⟩ (.bool false)).setCell ⟨w.heap.size + 1, 1, none⟩ (.int .i64 0) := ⟨_, rfl⟩
  rw [← hwf]
  obtain ⟨p1, p2, p3, p4, -⟩ := put_cell h4 HC4.out (by omega) (by omega) _ _ _ hwf
  refine bodyPost_ret (v := cellQ none) (by simp [results, Tryz.results66, go_sem, p2, p3, cellQ]) rfl ?_
  exact ⟨rfl, by simpa using p1, ((HK4.out.mono (by simp)).trans p4).drop (S := [F]) (by omega)⟩
end Go.Proofs.YtoaajpppbjaomaaGreatDoor
/- The words: the operators of one and of two values, as the reference has them. -/
namespace Go.Proofs.YtoaajpppbjaomaaGreatDoor
open Go.RowKit
theorem wrap_u64_eq (n : Int) : IntKind.u64.wrap n = n % 18446744073709551616 := by
  simp only [IntKind.wrap, IntKind.bits, IntKind.signed, Bool.false_and]
  rfl
theorem ofInt_toNat {n : Int} (h0 : 0 ≤ n) (h1 : n ≤ 18446744073709551615) : (BitVec.ofInt 64 n).toNat = n.toNat := by
  rw [BitVec.toNat_ofInt]
  have h2 : n % ((2 ^ 64 : Nat) : Int) = n := by
    have : ((2 ^ 64 : Nat) : Int) = 18446744073709551616 := by decide
    rw [this]; omega
  rw [h2]
theorem bits_xor_u64 {a b : Int} (ha0 : 0 ≤ a) (ha1 : a ≤ 18446744073709551615) (hb0 : 0 ≤ b) (hb1 : b ≤ 18446744073709551615) :
    bits BinOp.xor IntKind.u64 a b = ((a.toNat ^^^ b.toNat : Nat) : Int) := by
  have h : bits BinOp.xor IntKind.u64 a b = IntKind.u64.wrap ((BitVec.ofInt 64 a ^^^ BitVec.ofInt 64 b).toNat : Int) := rfl
  rw [h, wrap_u64_eq, BitVec.toNat_xor, ofInt_toNat ha0 ha1, ofInt_toNat hb0 hb1]
  have h2 : a.toNat ^^^ b.toNat < 2 ^ 64 := Nat.xor_lt_two_pow (by omega) (by omega)
  omega
theorem xor_max {n : Int} (h0 : 0 ≤ n) (h1 : n ≤ 18446744073709551615) : bits BinOp.xor IntKind.u64 IntKind.u64.max n = 18446744073709551615 - n := by
  have hm : IntKind.u64.max = 18446744073709551615 := by decide
  have h : bits BinOp.xor IntKind.u64 IntKind.u64.max n = IntKind.u64.wrap ((BitVec.ofInt 64 18446744073709551615 ^^^ BitVec.ofInt 64 n).toNat : Int) := by rw [hm]; rfl
  have h2 : BitVec.ofInt 64 18446744073709551615 = BitVec.allOnes 64 := by decide
  rw [h, h2, BitVec.allOnes_xor, wrap_u64_eq, BitVec.toNat_not, ofInt_toNat h0 h1]
  omega
theorem nat_xor_top (n : Nat) (h : n < 2 ^ 63) : n ^^^ 2 ^ 63 = 2 ^ 63 + n := by
  apply Nat.eq_of_testBit_eq
  intro i
  rw [Nat.testBit_xor, Nat.testBit_two_pow]
  rcases Nat.lt_trichotomy i 63 with hi | hi | hi
  · have : decide (63 = i) = false := by simp; omega
    rw [Nat.testBit_two_pow_add_gt hi, this, Bool.xor_false]
  · subst hi; rw [Nat.testBit_two_pow_add_eq]; simp
  · have h1 : n.testBit i = false := Nat.testBit_lt_two_pow (Nat.lt_of_lt_of_le h (Nat.pow_le_pow_right (by omega) (by omega)))
    have h2 : (2 ^ 63 + n).testBit i = false := Nat.testBit_lt_two_pow (Nat.lt_of_lt_of_le (show 2 ^ 63 + n < 2 ^ 64 by omega) (Nat.pow_le_pow_right (by omega) (by omega)))
    rw [h1, h2]; simp; omega
theorem xor_top {a : Int} (ha : I64 a) : bits BinOp.xor IntKind.u64 (IntKind.u64.wrap a) 9223372036854775808 = a + 9223372036854775808 := by
  obtain ⟨h1, h2⟩ := ha
  rw [wrap_u64_eq, bits_xor_u64 (by omega) (by omega) (by omega) (by omega)]
  have h3 : (9223372036854775808 : Int).toNat = 2 ^ 63 := by decide
  rw [h3]
  by_cases h : a < 0
  · have h4 : (a % 18446744073709551616).toNat = 2 ^ 63 + (a + 9223372036854775808).toNat := by omega
    rw [h4, ← nat_xor_top _ (by omega), Nat.xor_assoc, Nat.xor_self, Nat.xor_zero]; omega
  · have h4 : (a % 18446744073709551616).toNat = a.toNat := by omega
    rw [h4, nat_xor_top _ (by omega)]; omega
theorem xor_eq {a b : Int} (ha : I64 a) (hb : I64 b) : (bits BinOp.xor IntKind.u64 (IntKind.u64.wrap a) (IntKind.u64.wrap b) == 0) = (a == b) := by
  obtain ⟨h1, h2⟩ := ha
  obtain ⟨h3, h4⟩ := hb
  rw [wrap_u64_eq, wrap_u64_eq, bits_xor_u64 (by omega) (by omega) (by omega) (by omega), Bool.eq_iff_iff, beq_iff_eq, beq_iff_eq]
  constructor
  · intro h
    have h5 : (a % 18446744073709551616).toNat ^^^ (b % 18446744073709551616).toNat = 0 := by omega
    have h6 : (a % 18446744073709551616).toNat = (b % 18446744073709551616).toNat := by
      have h7 : ((a % 18446744073709551616).toNat ^^^ (b % 18446744073709551616).toNat) ^^^ (b % 18446744073709551616).toNat = 0 ^^^ (b % 18446744073709551616).toNat := by rw [h5]
      rwa [Nat.xor_assoc, Nat.xor_self, Nat.xor_zero, Nat.zero_xor] at h7
    omega
  · rintro rfl
    rw [Nat.xor_self]; rfl
theorem size_any (a : Int) (w : World) (ha : I64 a) :
    Calls Tryz.prog 106 #[.int .i64 a] w (Ret (.int .u64 (a.natAbs)) w) := by
  obtain ⟨h1, h2⟩ := ha
  by_cases h : a < 0
  · have e : IntKind.u64.wrap (bits BinOp.xor IntKind.u64 IntKind.u64.max (IntKind.u64.wrap a) + 1) = (a.natAbs : Int) := by
      rw [wrap_u64_eq a, xor_max (by omega) (by omega), wrap_u64_eq]; omega
    have HE := Lib.hid e
    clear e
    go_enter Tryz.func106, Tryz.ntmps106
    go_wp2
    go_ret
    exact ⟨congrArg (fun x => Ending.returned (.int .u64 x)) HE.out, rfl⟩
  · have e : (a.natAbs : Int) = a := by omega
    rw [e]
    clear e
    go_enter Tryz.func106, Tryz.ntmps106
    go_wp2
    go_ret
    exact ⟨by first | rfl | exact congrArg (fun x => Ending.returned (.int .u64 x)) (by rw [wrap_u64_eq]; omega), rfl⟩
def signedV (m : Bool) (n : Int) : Int := wrap64 (if m then -n else n)
theorem signed_any (n : Int) (m : Bool) (w : World) (h0 : 0 ≤ n) (h1 : n ≤ 18446744073709551615) :
    Calls Tryz.prog 102 #[.int .u64 n, .bool m] w (Ret (.int .i64 (signedV m n)) w) := by
  cases m
  · go_enter Tryz.func102, Tryz.ntmps102
    go_wp2
    go_ret
    exact ⟨rfl, rfl⟩
  · have e : wrap64 (IntKind.u64.wrap (bits BinOp.xor IntKind.u64 IntKind.u64.max n + 1)) = wrap64 (-n) := by
      rw [xor_max h0 h1, wrap_u64_eq]; unfold wrap64; omega
    have HE := Lib.hid e
    clear e
    go_enter Tryz.func102, Tryz.ntmps102
    go_wp2
    go_ret
    exact ⟨congrArg (fun x => Ending.returned (.int .i64 x)) HE.out, rfl⟩
theorem mod_two (y p : Int) (hp : 0 < p) (r : Int) (hr : (y / p) % 2 = r) : y % (p * 2) = y % p + p * r := by
  have h3 : 0 ≤ y % p := Int.emod_nonneg _ (by omega)
  have h4 : y % p < p := Int.emod_lt_of_pos _ hp
  have h6 : r = 0 ∨ r = 1 := by omega
  have h1 := (Int.mul_ediv_add_emod y p).symm
  have h2 := (Int.mul_ediv_add_emod (y / p) 2).symm
  generalize y / p = d at *
  generalize hm : y % p = m at *
  generalize d / 2 = q at *
  rw [hr] at h2
  have h5 : y = (m + p * r) + (p * 2) * q := by rw [h1, h2, Int.mul_add, ← Int.mul_assoc]; omega
  rw [h5, Int.add_mul_emod_self_left]
  apply Int.emod_eq_of_lt
  · rcases h6 with rfl | rfl <;> omega
  · rcases h6 with rfl | rfl <;> omega
theorem prod_one (x y : Int) (k : Nat) (hy : 0 ≤ y) (h : ((y / 2 ^ k).tmod 2 == 1) = true) :
    IntKind.u64.wrap (x * (y % 2 ^ k) % 18446744073709551616 + IntKind.u64.wrap (x * 2 ^ k)) = x * (y % 2 ^ (k + 1)) % 18446744073709551616 := by
  have hp : (0 : Int) < 2 ^ k := Int.pow_pos (by omega)
  have h0 : 0 ≤ y / 2 ^ k := Int.ediv_nonneg hy (by omega)
  rw [beq_iff_eq, Int.tmod_eq_emod_of_nonneg h0] at h
  have h2 : y % 2 ^ (k + 1) = y % 2 ^ k + 2 ^ k := by
    rw [Int.pow_succ, mod_two y _ hp 1 h]; omega
  rw [h2, wrap_u64_eq, wrap_u64_eq, Int.mul_add]
  omega
theorem prod_zero (x y : Int) (k : Nat) (hy : 0 ≤ y) (h : ((y / 2 ^ k).tmod 2 == 1) = false) :
    x * (y % 2 ^ k) % 18446744073709551616 = x * (y % 2 ^ (k + 1)) % 18446744073709551616 := by
  have hp : (0 : Int) < 2 ^ k := Int.pow_pos (by omega)
  have h0 : 0 ≤ y / 2 ^ k := Int.ediv_nonneg hy (by omega)
  rw [beq_eq_false_iff_ne, Int.tmod_eq_emod_of_nonneg h0] at h
  have h3 : (y / 2 ^ k) % 2 = 0 := by omega
  have h2 : y % 2 ^ (k + 1) = y % 2 ^ k := by
    rw [Int.pow_succ, mod_two y _ hp 0 h3]; omega
  rw [h2]
theorem product_any (x y : Int) (w : World) (hy0 : 0 ≤ y) (hy1 : y ≤ 18446744073709551615) :
    Calls Tryz.prog 104 #[.int .u64 x, .int .u64 y] w (Ret (.int .u64 ((x * y) % 18446744073709551616)) w) := by
  go_enter Tryz.func104, Tryz.ntmps104
  go_wp2
  go_loop [5, 6] (fun n i => ∃ k : Nat, k ≤ 64 ∧ i = .int .i64 k ∧ n = .int .u64 ((x * (y % 2 ^ k)) % 18446744073709551616)) (fun _ i => 64 - (intOf i).toNat)
  case atStart => exact ⟨0, by omega, rfl, by simp⟩
  case round =>
    obtain ⟨k, hk, rfl, rfl⟩ := hrel
    by_cases hlt : k < 64
    · go_wp2
      · rename_i h
        refine ⟨⟨k + 1, by omega, by go_num, ?_⟩, by simp [intOf]; omega⟩
        exact congrArg (Value.int .u64) (prod_one x y k hy0 h)
      · rename_i h
        refine ⟨⟨k + 1, by omega, by go_num, ?_⟩, by simp [intOf]; omega⟩
        exact congrArg (Value.int .u64) (prod_zero x y k hy0 h)
    · obtain rfl : k = 64 := by omega
      go_wp2
      go_ret
      refine ⟨?_, rfl⟩
      have : y % 18446744073709551616 = y := by omega
      exact congrArg (fun z => Ending.returned (.int .u64 z)) (by rw [this])
theorem truthQ_any (b : Bool) (w : World) : Calls Tryz.prog 103 #[.bool b] w (Ret (.int .i64 (truth b)) w) := by
  cases b
  · go_enter Tryz.func103, Tryz.ntmps103
    go_wp2
    go_ret
    exact ⟨rfl, rfl⟩
  · go_enter Tryz.func103, Tryz.ntmps103
    go_wp2
    go_ret
    exact ⟨rfl, rfl⟩
theorem least_any (a b : Int) (w : World) (ha : I64 a) : Calls Tryz.prog 105 #[.int .i64 a, .int .i64 b] w (Ret (.bool (decide (a = minI ∧ b = -1))) w) := by
  obtain ⟨ha1, ha2⟩ := ha
  by_cases h : a = minI
  · have h1 : (IntKind.u64.wrap a == 9223372036854775808) = true := by rw [h]; decide
    have e : (b == -1) = decide (a = minI ∧ b = -1) := by
      rw [Bool.eq_iff_iff]; simp [h]
    have HE := Lib.hid e
    clear e h
    go_enter Tryz.func105, Tryz.ntmps105
    go_wp2
    go_ret
    exact ⟨congrArg (fun x => Ending.returned (.bool x)) HE.out, rfl⟩
  · have h1 : (IntKind.u64.wrap a == 9223372036854775808) = false := by
      rw [wrap_u64_eq, beq_eq_false_iff_ne]; unfold minI at h; omega
    have e : decide (a = minI ∧ b = -1) = false := by simp [h]
    have HE := Lib.hid e
    clear e h
    go_enter Tryz.func105, Tryz.ntmps105
    go_wp2
    go_ret
    exact ⟨by rw [HE.out]; rfl, rfl⟩
theorem unQ_any (s : ByteArray) (a : Int) (w : World) :
    Calls Tryz.prog 86 #[.string s, .int .i64 a] w (Ret (unV s a) w) := by
  have hu0 : 0 ≤ IntKind.u64.wrap a := by rw [wrap_u64_eq]; omega
  have hu1 : IntKind.u64.wrap a ≤ 18446744073709551615 := by rw [wrap_u64_eq]; omega
  by_cases h1 : s = ⟨#[45]⟩
  · have h1' := tl_eq (l := [45]) h1
    have e : signedV true (IntKind.u64.wrap a) = wrap64 (-a) := by unfold signedV; simp only [if_true]; rw [wrap_u64_eq]; unfold wrap64; omega
    have hv : unV s a = .tuple #[.int .i64 (signedV true (IntKind.u64.wrap a)), .int .i64 0] := by rw [e]; subst h1; rfl
    clear h1 e
    go_enter Tryz.func86, Tryz.ntmps86
    go_wp2_with fail
    refine (signed_any _ _ _ hu0 hu1).mono ?_
    rintro e w' ⟨rfl, rfl⟩
    go_wp2
    go_ret2
    exact ⟨by rw [hv]; rfl, rfl⟩
  · have h1' := tl_ne (l := [45]) h1
    by_cases h2 : s = ⟨#[110, 111, 116]⟩
    · have h2' := tl_eq (l := [110, 111, 116]) h2
      have hv : unV s a = .tuple #[.int .i64 (truth (a == 0)), .int .i64 0] := by subst h2; rfl
      clear h1 h2
      go_enter Tryz.func86, Tryz.ntmps86
      go_wp2_with fail
      refine (truthQ_any _ _).mono ?_
      rintro e w' ⟨rfl, rfl⟩
      go_wp2
      go_ret2
      exact ⟨by rw [hv]; rfl, rfl⟩
    · have h2' := tl_ne (l := [110, 111, 116]) h2
      have hv : unV s a = .tuple #[.int .i64 0, .int .i64 10] := by simp [unV, unop, h1, h2]
      clear h1 h2
      go_enter Tryz.func86, Tryz.ntmps86
      go_wp2
      go_ret2
      exact ⟨by rw [hv]; rfl, rfl⟩
theorem quo_eq {a b : Int} (h : ¬ (b = 0 ∨ (a = minI ∧ b = -1))) : (if (decide (a < 0) != decide (b < 0)) = true then -((a.natAbs : Int).tdiv b.natAbs) else (a.natAbs : Int).tdiv b.natAbs) = quoI a b := by
  unfold quoI
  rw [if_neg h]
  by_cases ha : a < 0
  · have e : (a.natAbs : Int) = -a := by omega
    rw [e]
    by_cases hb : b < 0
    · have e2 : (b.natAbs : Int) = -b := by omega
      rw [e2]; simp [ha, hb, Int.neg_tdiv, Int.tdiv_neg]
    · have e2 : (b.natAbs : Int) = b := by omega
      rw [e2]; simp [ha, hb, Int.neg_tdiv]
  · have e : (a.natAbs : Int) = a := by omega
    rw [e]
    by_cases hb : b < 0
    · have e2 : (b.natAbs : Int) = -b := by omega
      rw [e2]; simp [ha, hb, Int.tdiv_neg]
    · have e2 : (b.natAbs : Int) = b := by omega
      rw [e2]; simp [ha, hb]
theorem rem_eq {a b : Int} (h : ¬ (b = 0 ∨ (a = minI ∧ b = -1))) : (if decide (a < 0) = true then -((a.natAbs : Int).tmod b.natAbs) else (a.natAbs : Int).tmod b.natAbs) = remI a b := by
  unfold remI
  rw [if_neg h]
  have hb : ∀ x : Int, x.tmod b.natAbs = x.tmod b := by
    intro x
    by_cases hb : b < 0
    · have e2 : (b.natAbs : Int) = -b := by omega
      rw [e2, Int.tmod_neg]
    · have e2 : (b.natAbs : Int) = b := by omega
      rw [e2]
  rw [hb]
  by_cases ha : a < 0
  · have e : (a.natAbs : Int) = -a := by omega
    rw [e]; simp [ha, Int.neg_tmod]
  · have e : (a.natAbs : Int) = a := by omega
    rw [e]; simp [ha]
theorem quo_fin {a b : Int} (ha : I64 a) (h : ¬ (b = 0 ∨ (a = minI ∧ b = -1))) :
    signedV (!(decide (a < 0) == decide (b < 0))) (IntKind.u64.wrap ((a.natAbs : Int) / b.natAbs)) = quoI a b := by
  have h1 : ((a.natAbs : Int) / b.natAbs) = (a.natAbs : Int).tdiv b.natAbs := (Int.tdiv_eq_ediv_of_nonneg (by omega)).symm
  have h2 : (a.natAbs : Int) / b.natAbs ≤ a.natAbs := Int.ediv_le_self _ (by omega)
  have h3 : 0 ≤ (a.natAbs : Int) / b.natAbs := Int.ediv_nonneg (by omega) (by omega)
  have h4 : IntKind.u64.wrap ((a.natAbs : Int) / b.natAbs) = (a.natAbs : Int) / b.natAbs := by
    rw [wrap_u64_eq]; have := ha.1; have := ha.2; omega
  unfold signedV
  rw [h4, h1]
  have h5 := quo_eq (a := a) (b := b) h
  unfold bne at h5
  rw [h5]
  unfold quoI
  rw [if_neg h]
  exact tdiv_in ha ⟨fun e => h (.inl e), fun e => h (.inr e)⟩
theorem rem_fin {a b : Int} (ha : I64 a) (h : ¬ (b = 0 ∨ (a = minI ∧ b = -1))) :
    signedV (decide (a < 0)) ((a.natAbs : Int) % b.natAbs) = remI a b := by
  have h1 : ((a.natAbs : Int) % b.natAbs) = (a.natAbs : Int).tmod b.natAbs := (Int.tmod_eq_emod_of_nonneg (by omega)).symm
  unfold signedV
  rw [h1, rem_eq h]
  unfold remI
  rw [if_neg h]
  exact tmod_in ha
set_option maxHeartbeats 400000 in
theorem qname1 (s : ByteArray) (a b : Int)  (h1 : (s.toList == [43]) = true) (w : World) : Calls Tryz.prog 87 #[.string s, .int .i64 a, .int .i64 b] w (Ret (.tuple #[.int .i64 (wrap64 (a + b)), .int .i64 0]) w) := by
  have HE := Lib.hid (show wrap64 (IntKind.u64.wrap (IntKind.u64.wrap a + IntKind.u64.wrap b)) = wrap64 (a + b) by simp only [wrap_u64_eq]; unfold wrap64; omega)
  go_enter Tryz.func87, Tryz.ntmps87
  go_wp2_with fail
  go_ret2
  exact ⟨congrArg (fun x => Ending.returned (.tuple #[.int .i64 x, .int .i64 0])) HE.out, rfl⟩
set_option maxHeartbeats 400000 in
theorem qname2 (s : ByteArray) (a b : Int) (h1 : (s.toList == [43]) = false) (h2 : (s.toList == [45]) = true) (w : World) : Calls Tryz.prog 87 #[.string s, .int .i64 a, .int .i64 b] w (Ret (.tuple #[.int .i64 (wrap64 (a - b)), .int .i64 0]) w) := by
  have HE := Lib.hid (show wrap64 (IntKind.u64.wrap (IntKind.u64.wrap a - IntKind.u64.wrap b)) = wrap64 (a - b) by simp only [wrap_u64_eq]; unfold wrap64; omega)
  go_enter Tryz.func87, Tryz.ntmps87
  go_wp2_with fail
  go_ret2
  exact ⟨congrArg (fun x => Ending.returned (.tuple #[.int .i64 x, .int .i64 0])) HE.out, rfl⟩
set_option maxHeartbeats 400000 in
theorem qname3 (s : ByteArray) (a b : Int) (h1 : (s.toList == [43]) = false) (h2 : (s.toList == [45]) = false) (h3 : (s.toList == [42]) = true) (w : World) : Calls Tryz.prog 87 #[.string s, .int .i64 a, .int .i64 b] w (Ret (.tuple #[.int .i64 (wrap64 (a * b)), .int .i64 0]) w) := by
  have HE := Lib.hid (show wrap64 (IntKind.u64.wrap a * IntKind.u64.wrap b % 18446744073709551616) = wrap64 (a * b) by
    simp only [wrap_u64_eq]
    have h : a % 18446744073709551616 * (b % 18446744073709551616) % 18446744073709551616 = a * b % 18446744073709551616 := (Int.mul_emod a b _).symm
    rw [h]; unfold wrap64; omega)
  go_enter Tryz.func87, Tryz.ntmps87
  go_wp2_with fail
  refine (product_any _ _ _ (by rw [wrap_u64_eq]; omega) (by rw [wrap_u64_eq]; omega)).mono ?_
  rintro e w' ⟨rfl, rfl⟩
  go_wp2_with fail
  go_ret2
  exact ⟨congrArg (fun x => Ending.returned (.tuple #[.int .i64 x, .int .i64 0])) HE.out, rfl⟩
set_option maxHeartbeats 400000 in
theorem qname6 (s : ByteArray) (a b : Int) (ha : I64 a) (hb : I64 b) (h1 : (s.toList == [43]) = false) (h2 : (s.toList == [45]) = false) (h3 : (s.toList == [42]) = false) (h4 : (s.toList == [47]) = false) (h5 : (s.toList == [37]) = false) (h6 : (s.toList == [60]) = true) (w : World) : Calls Tryz.prog 87 #[.string s, .int .i64 a, .int .i64 b] w (Ret (.tuple #[.int .i64 (truth (decide (a < b))), .int .i64 0]) w) := by
  have HE := Lib.hid (show truth (decide (bits BinOp.xor IntKind.u64 (IntKind.u64.wrap a) 9223372036854775808 < bits BinOp.xor IntKind.u64 (IntKind.u64.wrap b) 9223372036854775808)) = truth (decide (a < b)) by
    rw [xor_top ha, xor_top hb]; congr 1; rw [Bool.eq_iff_iff]; simp)
  go_enter Tryz.func87, Tryz.ntmps87
  go_wp2_with fail
  refine (truthQ_any _ _).mono ?_
  rintro e w' ⟨rfl, rfl⟩
  go_wp2_with fail
  go_ret2
  exact ⟨congrArg (fun x => Ending.returned (.tuple #[.int .i64 x, .int .i64 0])) HE.out, rfl⟩
set_option maxHeartbeats 400000 in
theorem qname7 (s : ByteArray) (a b : Int) (ha : I64 a) (hb : I64 b) (h1 : (s.toList == [43]) = false) (h2 : (s.toList == [45]) = false) (h3 : (s.toList == [42]) = false) (h4 : (s.toList == [47]) = false) (h5 : (s.toList == [37]) = false) (h6 : (s.toList == [60]) = false) (h7 : (s.toList == [60, 61]) = true) (w : World) : Calls Tryz.prog 87 #[.string s, .int .i64 a, .int .i64 b] w (Ret (.tuple #[.int .i64 (truth (decide (a ≤ b))), .int .i64 0]) w) := by
  have HE := Lib.hid (show truth (decide (bits BinOp.xor IntKind.u64 (IntKind.u64.wrap a) 9223372036854775808 ≤ bits BinOp.xor IntKind.u64 (IntKind.u64.wrap b) 9223372036854775808)) = truth (decide (a ≤ b)) by
    rw [xor_top ha, xor_top hb]; congr 1; rw [Bool.eq_iff_iff]; simp)
  go_enter Tryz.func87, Tryz.ntmps87
  go_wp2_with fail
  refine (truthQ_any _ _).mono ?_
  rintro e w' ⟨rfl, rfl⟩
  go_wp2_with fail
  go_ret2
  exact ⟨congrArg (fun x => Ending.returned (.tuple #[.int .i64 x, .int .i64 0])) HE.out, rfl⟩
set_option maxHeartbeats 400000 in
theorem qname8 (s : ByteArray) (a b : Int) (ha : I64 a) (hb : I64 b) (h1 : (s.toList == [43]) = false) (h2 : (s.toList == [45]) = false) (h3 : (s.toList == [42]) = false) (h4 : (s.toList == [47]) = false) (h5 : (s.toList == [37]) = false) (h6 : (s.toList == [60]) = false) (h7 : (s.toList == [60, 61]) = false) (h8 : (s.toList == [61]) = true) (w : World) : Calls Tryz.prog 87 #[.string s, .int .i64 a, .int .i64 b] w (Ret (.tuple #[.int .i64 (truth (a == b)), .int .i64 0]) w) := by
  have HE := Lib.hid (show truth (bits BinOp.xor IntKind.u64 (IntKind.u64.wrap a) (IntKind.u64.wrap b) == 0) = truth (a == b) by rw [xor_eq ha hb])
  go_enter Tryz.func87, Tryz.ntmps87
  go_wp2_with fail
  refine (truthQ_any _ _).mono ?_
  rintro e w' ⟨rfl, rfl⟩
  go_wp2_with fail
  go_ret2
  exact ⟨congrArg (fun x => Ending.returned (.tuple #[.int .i64 x, .int .i64 0])) HE.out, rfl⟩
set_option maxHeartbeats 400000 in
theorem qname9 (s : ByteArray) (a b : Int) (ha : I64 a) (hb : I64 b) (h1 : (s.toList == [43]) = false) (h2 : (s.toList == [45]) = false) (h3 : (s.toList == [42]) = false) (h4 : (s.toList == [47]) = false) (h5 : (s.toList == [37]) = false) (h6 : (s.toList == [60]) = false) (h7 : (s.toList == [60, 61]) = false) (h8 : (s.toList == [61]) = false) (h9 : (s.toList == [60, 62]) = true) (w : World) : Calls Tryz.prog 87 #[.string s, .int .i64 a, .int .i64 b] w (Ret (.tuple #[.int .i64 (truth (a != b)), .int .i64 0]) w) := by
  have HE := Lib.hid (show truth (bits BinOp.xor IntKind.u64 (IntKind.u64.wrap a) (IntKind.u64.wrap b) != 0) = truth (a != b) by unfold bne; rw [xor_eq ha hb])
  go_enter Tryz.func87, Tryz.ntmps87
  go_wp2_with fail
  refine (truthQ_any _ _).mono ?_
  rintro e w' ⟨rfl, rfl⟩
  go_wp2_with fail
  go_ret2
  exact ⟨congrArg (fun x => Ending.returned (.tuple #[.int .i64 x, .int .i64 0])) HE.out, rfl⟩
set_option maxHeartbeats 400000 in
theorem qname10 (s : ByteArray) (a b : Int) (h1 : (s.toList == [43]) = false) (h2 : (s.toList == [45]) = false) (h3 : (s.toList == [42]) = false) (h4 : (s.toList == [47]) = false) (h5 : (s.toList == [37]) = false) (h6 : (s.toList == [60]) = false) (h7 : (s.toList == [60, 61]) = false) (h8 : (s.toList == [61]) = false) (h9 : (s.toList == [60, 62]) = false) (h10 : (s.toList == [97, 110, 100]) = true) (w : World) : Calls Tryz.prog 87 #[.string s, .int .i64 a, .int .i64 b] w (Ret (.tuple #[.int .i64 (truth (a != 0 && b != 0)), .int .i64 0]) w) := by
  cases h : (a != 0)
  · go_enter Tryz.func87, Tryz.ntmps87
    go_wp2_with fail
    refine (truthQ_any _ _).mono ?_
    rintro e w' ⟨rfl, rfl⟩
    go_wp2_with fail
    go_ret2
    exact ⟨rfl, rfl⟩
  · go_enter Tryz.func87, Tryz.ntmps87
    go_wp2_with fail
    refine (truthQ_any _ _).mono ?_
    rintro e w' ⟨rfl, rfl⟩
    go_wp2_with fail
    go_ret2
    exact ⟨rfl, rfl⟩
set_option maxHeartbeats 400000 in
theorem qname11 (s : ByteArray) (a b : Int) (h1 : (s.toList == [43]) = false) (h2 : (s.toList == [45]) = false) (h3 : (s.toList == [42]) = false) (h4 : (s.toList == [47]) = false) (h5 : (s.toList == [37]) = false) (h6 : (s.toList == [60]) = false) (h7 : (s.toList == [60, 61]) = false) (h8 : (s.toList == [61]) = false) (h9 : (s.toList == [60, 62]) = false) (h10 : (s.toList == [97, 110, 100]) = false) (h11 : (s.toList == [111, 114]) = true) (w : World) : Calls Tryz.prog 87 #[.string s, .int .i64 a, .int .i64 b] w (Ret (.tuple #[.int .i64 (truth (a != 0 || b != 0)), .int .i64 0]) w) := by
  cases h : (a != 0)
  · go_enter Tryz.func87, Tryz.ntmps87
    go_wp2_with fail
    refine (truthQ_any _ _).mono ?_
    rintro e w' ⟨rfl, rfl⟩
    go_wp2_with fail
    go_ret2
    exact ⟨rfl, rfl⟩
  · go_enter Tryz.func87, Tryz.ntmps87
    go_wp2_with fail
    refine (truthQ_any _ _).mono ?_
    rintro e w' ⟨rfl, rfl⟩
    go_wp2_with fail
    go_ret2
    exact ⟨rfl, rfl⟩
set_option maxHeartbeats 400000 in
theorem qname4 (s : ByteArray) (a b : Int) (ha : I64 a) (hb : I64 b) (h1 : (s.toList == [43]) = false) (h2 : (s.toList == [45]) = false) (h3 : (s.toList == [42]) = false) (h4 : (s.toList == [47]) = true) (w : World) : Calls Tryz.prog 87 #[.string s, .int .i64 a, .int .i64 b] w (Ret (.tuple #[.int .i64 (quoI a b), .int .i64 0]) w) := by
  by_cases hb0 : b = 0
  · have hv : quoI a b = 0 := by simp [quoI, hb0]
    have HV := Lib.hid hv
    clear hv
    subst hb0
    go_enter Tryz.func87, Tryz.ntmps87
    go_wp2_with fail
    go_ret2
    exact ⟨by rw [HV.out]; rfl, rfl⟩
  · have hb1 : (b == 0) = false := by simp [hb0]
    by_cases hl : a = minI ∧ b = -1
    · have hv : quoI a b = 0 := by simp [quoI, hl]
      have HV := Lib.hid hv
      have HD := Lib.hid (show decide (a = minI ∧ b = -1) = true by simp [hl])
      clear hv hb0 hl
      go_enter Tryz.func87, Tryz.ntmps87
      go_wp2_with fail
      refine (least_any _ _ _ ha).mono ?_
      rw [HD.out]
      rintro e w' ⟨rfl, rfl⟩
      go_wp2_with fail
      go_ret2
      exact ⟨by rw [HV.out]; rfl, rfl⟩
    · have hv := quo_fin ha (b := b) (by omega)
      have HV := Lib.hid hv
      have HD := Lib.hid (show decide (a = minI ∧ b = -1) = false by simp [hl])
      have hq : (b.natAbs : Int) ≠ 0 := by omega
      have hu0 : 0 ≤ (a.natAbs : Int) := by omega
      have hu1 : (a.natAbs : Int) ≤ 18446744073709551615 := by have := ha.1; have := ha.2; omega
      clear hv hb0 hl
      go_enter Tryz.func87, Tryz.ntmps87
      go_wp2_with fail
      refine (least_any _ _ _ ha).mono ?_
      rw [HD.out]
      rintro e w' ⟨rfl, rfl⟩
      go_wp2_with fail
      refine (size_any _ _ ha).mono ?_
      rintro e w' ⟨rfl, rfl⟩
      go_wp2_with fail
      refine (size_any _ _ hb).mono ?_
      rintro e w' ⟨rfl, rfl⟩
      go_wp2_with fail
      refine (signed_any _ _ _ (by rw [wrap_u64_eq]; omega) (by rw [wrap_u64_eq]; omega)).mono ?_
      rintro e w' ⟨rfl, rfl⟩
      go_wp2_with fail
      go_ret2
      exact ⟨congrArg (fun x => Ending.returned (.tuple #[.int .i64 x, .int .i64 0])) HV.out, rfl⟩
set_option maxHeartbeats 400000 in
theorem qname5 (s : ByteArray) (a b : Int) (ha : I64 a) (hb : I64 b) (h1 : (s.toList == [43]) = false) (h2 : (s.toList == [45]) = false) (h3 : (s.toList == [42]) = false) (h4 : (s.toList == [47]) = false) (h5 : (s.toList == [37]) = true) (w : World) : Calls Tryz.prog 87 #[.string s, .int .i64 a, .int .i64 b] w (Ret (.tuple #[.int .i64 (remI a b), .int .i64 0]) w) := by
  by_cases hb0 : b = 0
  · have hv : remI a b = 0 := by simp [remI, hb0]
    have HV := Lib.hid hv
    clear hv
    subst hb0
    go_enter Tryz.func87, Tryz.ntmps87
    go_wp2_with fail
    go_ret2
    exact ⟨by rw [HV.out]; rfl, rfl⟩
  · have hb1 : (b == 0) = false := by simp [hb0]
    by_cases hl : a = minI ∧ b = -1
    · have hv : remI a b = 0 := by simp [remI, hl]
      have HV := Lib.hid hv
      have HD := Lib.hid (show decide (a = minI ∧ b = -1) = true by simp [hl])
      clear hv hb0 hl
      go_enter Tryz.func87, Tryz.ntmps87
      go_wp2_with fail
      refine (least_any _ _ _ ha).mono ?_
      rw [HD.out]
      rintro e w' ⟨rfl, rfl⟩
      go_wp2_with fail
      go_ret2
      exact ⟨by rw [HV.out]; rfl, rfl⟩
    · have hv := rem_fin ha (b := b) (by omega)
      have HV := Lib.hid hv
      have HD := Lib.hid (show decide (a = minI ∧ b = -1) = false by simp [hl])
      have hq : (b.natAbs : Int) ≠ 0 := by omega
      have hu0 : 0 ≤ (a.natAbs : Int) := by omega
      have hu1 : (a.natAbs : Int) ≤ 18446744073709551615 := by have := ha.1; have := ha.2; omega
      clear hv hb0 hl
      go_enter Tryz.func87, Tryz.ntmps87
      go_wp2_with fail
      refine (least_any _ _ _ ha).mono ?_
      rw [HD.out]
      rintro e w' ⟨rfl, rfl⟩
      go_wp2_with fail
      refine (size_any _ _ ha).mono ?_
      rintro e w' ⟨rfl, rfl⟩
      go_wp2_with fail
      refine (size_any _ _ hb).mono ?_
      rintro e w' ⟨rfl, rfl⟩
      go_wp2_with fail
      refine (signed_any _ _ _ (Int.emod_nonneg _ hq) (by have := Int.emod_lt_of_pos (a.natAbs : Int) (b := (b.natAbs : Int)) (by omega); have := hb.1; have := hb.2; omega)).mono ?_
      rintro e w' ⟨rfl, rfl⟩
      go_wp2_with fail
      go_ret2
      exact ⟨congrArg (fun x => Ending.returned (.tuple #[.int .i64 x, .int .i64 0])) HV.out, rfl⟩
set_option maxHeartbeats 400000 in
theorem qnone (s : ByteArray) (a b : Int) (h1 : (s.toList == [43]) = false) (h2 : (s.toList == [45]) = false) (h3 : (s.toList == [42]) = false) (h4 : (s.toList == [47]) = false) (h5 : (s.toList == [37]) = false) (h6 : (s.toList == [60]) = false) (h7 : (s.toList == [60, 61]) = false) (h8 : (s.toList == [61]) = false) (h9 : (s.toList == [60, 62]) = false) (h10 : (s.toList == [97, 110, 100]) = false) (h11 : (s.toList == [111, 114]) = false) (w : World) : Calls Tryz.prog 87 #[.string s, .int .i64 a, .int .i64 b] w (Ret (.tuple #[.int .i64 0, .int .i64 10]) w) := by
  go_enter Tryz.func87, Tryz.ntmps87
  go_wp2_with fail
  go_ret2
  exact ⟨rfl, rfl⟩
theorem binQ_any (s : ByteArray) (a b : Int) (ha : I64 a) (hb : I64 b) (w : World) :
    Calls Tryz.prog 87 #[.string s, .int .i64 a, .int .i64 b] w (Ret (binV s a b) w) := by
  by_cases h1 : s = ⟨#[43]⟩
  · have hv : binV s a b = .tuple #[.int .i64 (wrap64 (a + b)), .int .i64 0] := by subst h1; rfl
    rw [hv]
    exact qname1 s a b  (tl_eq (l := [43]) h1) w
  by_cases h2 : s = ⟨#[45]⟩
  · have hv : binV s a b = .tuple #[.int .i64 (wrap64 (a - b)), .int .i64 0] := by subst h2; rfl
    rw [hv]
    exact qname2 s a b (tl_ne (l := [43]) h1) (tl_eq (l := [45]) h2) w
  by_cases h3 : s = ⟨#[42]⟩
  · have hv : binV s a b = .tuple #[.int .i64 (wrap64 (a * b)), .int .i64 0] := by subst h3; rfl
    rw [hv]
    exact qname3 s a b (tl_ne (l := [43]) h1) (tl_ne (l := [45]) h2) (tl_eq (l := [42]) h3) w
  by_cases h4 : s = ⟨#[47]⟩
  · have hv : binV s a b = .tuple #[.int .i64 (quoI a b), .int .i64 0] := by subst h4; rfl
    rw [hv]
    exact qname4 s a b ha hb (tl_ne (l := [43]) h1) (tl_ne (l := [45]) h2) (tl_ne (l := [42]) h3) (tl_eq (l := [47]) h4) w
  by_cases h5 : s = ⟨#[37]⟩
  · have hv : binV s a b = .tuple #[.int .i64 (remI a b), .int .i64 0] := by subst h5; rfl
    rw [hv]
    exact qname5 s a b ha hb (tl_ne (l := [43]) h1) (tl_ne (l := [45]) h2) (tl_ne (l := [42]) h3) (tl_ne (l := [47]) h4) (tl_eq (l := [37]) h5) w
  by_cases h6 : s = ⟨#[60]⟩
  · have hv : binV s a b = .tuple #[.int .i64 (truth (decide (a < b))), .int .i64 0] := by subst h6; rfl
    rw [hv]
    exact qname6 s a b ha hb (tl_ne (l := [43]) h1) (tl_ne (l := [45]) h2) (tl_ne (l := [42]) h3) (tl_ne (l := [47]) h4) (tl_ne (l := [37]) h5) (tl_eq (l := [60]) h6) w
  by_cases h7 : s = ⟨#[60, 61]⟩
  · have hv : binV s a b = .tuple #[.int .i64 (truth (decide (a ≤ b))), .int .i64 0] := by subst h7; rfl
    rw [hv]
    exact qname7 s a b ha hb (tl_ne (l := [43]) h1) (tl_ne (l := [45]) h2) (tl_ne (l := [42]) h3) (tl_ne (l := [47]) h4) (tl_ne (l := [37]) h5) (tl_ne (l := [60]) h6) (tl_eq (l := [60, 61]) h7) w
  by_cases h8 : s = ⟨#[61]⟩
  · have hv : binV s a b = .tuple #[.int .i64 (truth (a == b)), .int .i64 0] := by subst h8; rfl
    rw [hv]
    exact qname8 s a b ha hb (tl_ne (l := [43]) h1) (tl_ne (l := [45]) h2) (tl_ne (l := [42]) h3) (tl_ne (l := [47]) h4) (tl_ne (l := [37]) h5) (tl_ne (l := [60]) h6) (tl_ne (l := [60, 61]) h7) (tl_eq (l := [61]) h8) w
  by_cases h9 : s = ⟨#[60, 62]⟩
  · have hv : binV s a b = .tuple #[.int .i64 (truth (a != b)), .int .i64 0] := by subst h9; rfl
    rw [hv]
    exact qname9 s a b ha hb (tl_ne (l := [43]) h1) (tl_ne (l := [45]) h2) (tl_ne (l := [42]) h3) (tl_ne (l := [47]) h4) (tl_ne (l := [37]) h5) (tl_ne (l := [60]) h6) (tl_ne (l := [60, 61]) h7) (tl_ne (l := [61]) h8) (tl_eq (l := [60, 62]) h9) w
  by_cases h10 : s = ⟨#[97, 110, 100]⟩
  · have hv : binV s a b = .tuple #[.int .i64 (truth (a != 0 && b != 0)), .int .i64 0] := by subst h10; rfl
    rw [hv]
    exact qname10 s a b (tl_ne (l := [43]) h1) (tl_ne (l := [45]) h2) (tl_ne (l := [42]) h3) (tl_ne (l := [47]) h4) (tl_ne (l := [37]) h5) (tl_ne (l := [60]) h6) (tl_ne (l := [60, 61]) h7) (tl_ne (l := [61]) h8) (tl_ne (l := [60, 62]) h9) (tl_eq (l := [97, 110, 100]) h10) w
  by_cases h11 : s = ⟨#[111, 114]⟩
  · have hv : binV s a b = .tuple #[.int .i64 (truth (a != 0 || b != 0)), .int .i64 0] := by subst h11; rfl
    rw [hv]
    exact qname11 s a b (tl_ne (l := [43]) h1) (tl_ne (l := [45]) h2) (tl_ne (l := [42]) h3) (tl_ne (l := [47]) h4) (tl_ne (l := [37]) h5) (tl_ne (l := [60]) h6) (tl_ne (l := [60, 61]) h7) (tl_ne (l := [61]) h8) (tl_ne (l := [60, 62]) h9) (tl_ne (l := [97, 110, 100]) h10) (tl_eq (l := [111, 114]) h11) w
  have hv : binV s a b = .tuple #[.int .i64 0, .int .i64 10] := by simp [binV, binop, h1, h2, h3, h4, h5, h6, h7, h8, h9, h10, h11]
  rw [hv]
  exact qnone s a b (tl_ne (l := [43]) h1) (tl_ne (l := [45]) h2) (tl_ne (l := [42]) h3) (tl_ne (l := [47]) h4) (tl_ne (l := [37]) h5) (tl_ne (l := [60]) h6) (tl_ne (l := [60, 61]) h7) (tl_ne (l := [61]) h8) (tl_ne (l := [60, 62]) h9) (tl_ne (l := [97, 110, 100]) h10) (tl_ne (l := [111, 114]) h11) w
end Go.Proofs.YtoaajpppbjaomaaGreatDoor
/- The reference's composed expressions (printed by wip/tools/mkCi.py). -/
namespace Go.Proofs.YtoaajpppbjaomaaGreatDoor
open Go.RowKit
/-- a kid, cell by cell, in every later world -/
def KidC (W : World) (b o : Nat) (p : Int) (s : ByteArray) (v : Int) (vc vk : Value) : Prop :=
  ∀ {w : World}, Below W.heap.size W w → w.cell? ⟨b, o, none⟩ = some (.int .i64 p) ∧ w.cell? ⟨b, o + 1, none⟩ = some (.string s) ∧ w.cell? ⟨b, o + 2, none⟩ = some (.int .i64 v) ∧ w.cell? ⟨b, o + 3, none⟩ = some vc ∧ w.cell? ⟨b, o + 4, none⟩ = some vk ∧ vc.oneCell' = true ∧ vk.oneCell' = true
theorem un_get {r : Option (Option Int)} {x : Option Int} {name : ByteArray} (h : r.getD none = x) : (r.map fun x => x.bind fun x => unop name x).getD none = x.bind fun x => unop name x := by
  subst h; cases r <;> rfl
set_option maxRecDepth 100000 in
set_option maxHeartbeats 2000000 in
theorem vq_un {W w : World} {lo F R M : Nat} {fv : Value} {base : Nat} {mem : Mem} {cnt : Int} {vs : Vars} {bad : Bool} {vv : Value} (h : FrQ W w lo F R M fv base mem cnt vs bad vv) (name : ByteArray) (v : Int) (vc : Value) (_hvc : vc.oneCell' = true) (b o c : Nat) (hb : b < W.heap.size) (p0 : Int) (s0 : ByteArray) (v0 : Int) (vc0 vk0 : Value) (r0 : Option (Option Int)) (hk0 : KidC W b (o) p0 s0 v0 vc0 vk0) (IH0 : ∀ (w : World) (bad : Bool), FrQ W w lo F R M fv base mem cnt vs bad vv → Calls Tryz.prog 66 #[.pointer (some ⟨F, 0, none⟩), .agg #[.int .i64 p0, .string s0, .int .i64 v0, vc0, vk0]] w (ValQ W lo F R M fv base mem cnt vs bad vv r0 w)) :
    Calls Tryz.prog 66 #[.pointer (some ⟨F, 0, none⟩), .agg #[.int .i64 5, .string name, .int .i64 v, vc, .slice (some ⟨b, o, none⟩) 1 c]] w (ValQ W lo F R M fv base mem cnt vs bad vv (r0.map fun x => x.bind fun x => unop name x) w) := by
  have hWw := h.rm.below.size
  replace hb : b < w.heap.size := by omega
  have hlo : lo ≤ w.heap.size := by have := lt_of_block h.hF; have := h.geF; omega
  have hFl := lt_of_block h.hF
  go_enter Tryz.func66, Tryz.ntmps66
  go_upto_region 1 with fail
  obtain ⟨w2, hw2⟩ : ∃ w2, w2 = (w.alloc (Obj.cells #[.int .i64 5, .string name, .int .i64 v, vc, .slice (some ⟨b, o, none⟩) 1 c] 85)).alloc (Obj.cells #[.bool false, .int .i64 0] 75) := ⟨_, rfl⟩
  rw [← hw2]
  obtain ⟨hb2, hE, hC⟩ := two_new _ _ _ _ hw2
  clear hw2
  have H := Lib.hid (h.on hb2)
  have HK := Lib.hid (KeepV.of_below (lo := lo) (S := [F]) hb2)
  have HE := Lib.hid hE
  have HC := Lib.hid hC
  have hsz := hb2.size
  have e0 := cellB' hE 0 rfl
  have e1 := cellB' hE 1 rfl
  have e2 := cellB' hE 2 rfl
  have e4 := cellB' hE 4 rfl
  have c0 := cellB' hC 0 rfl
  have c1 := cellB' hC 1 rfl
  have z0 := frozB hC 0
  have z1 := frozB hC 1
  have hEl := lt_of_block hE
  have hCl := lt_of_block hC
  clear h hb2 hE hC
  obtain ⟨g00, g01, g02, g03, g04, g05, g06⟩ := hk0 H.out.rm.below
  have hbl2 : b < w2.heap.size := by omega
  go_wp2_with fail
  refine (IH0 _ _ H.out).mono ?_
  rintro e w3 ⟨rfl, hw3, hkw3⟩
  have Hw3 := Lib.hid hw3
  have HKw3 := Lib.hid (HK.out.trans hkw3)
  have HEw3 := Lib.hid (hkw3.cells HE.out (by simp; omega) (by decide))
  have HCw3 := Lib.hid (hkw3.cells HC.out (by simp; omega) (by decide))
  have hsw3 := hkw3.size
  generalize hx : r0.getD none = x
  unfold cellQ
  clear hkw3 hw3 e0 e1 e2 e4 c0 c1 z0 z1 hEl hCl g00 g01 g02 g03 g04
  go_upto_region 14 with fail
  obtain ⟨w4, hww4⟩ : ∃ w4, w4 = w3.alloc (Obj.cells #[.bool x.isSome, .int .i64 (x.getD 0)] 75) := ⟨_, rfl⟩
  rw [← hww4]
  have hbw4 : Below w3.heap.size w3 w4 := by rw [hww4]; exact (Below.refl _ _).alloc (Nat.le_refl _) _
  have HN0 := Lib.hid (show w4.heap[w3.heap.size]? = some (Obj.cells #[.bool x.isSome, .int .i64 (x.getD 0)] 75 (0, 0)) by rw [hww4]; exact heap_alloc_at _ _)
  have Hw4 := Lib.hid (Hw3.out.on hbw4)
  have HKw4 := Lib.hid (HKw3.out.trans (KeepV.of_below hbw4))
  have HEw4 := Lib.hid ((hbw4.block _ (lt_of_block HEw3.out)).trans HEw3.out)
  have HCw4 := Lib.hid ((hbw4.block _ (lt_of_block HCw3.out)).trans HCw3.out)
  have hsw4 := hbw4.size
  clear hww4 hbw4
  have e0 := cellB' HEw4.out 0 rfl
  have e1 := cellB' HEw4.out 1 rfl
  have e4 := cellB' HEw4.out 4 rfl
  have c0 := cellB' HCw4.out 0 rfl
  have c1 := cellB' HCw4.out 1 rfl
  have z0 := frozB HCw4.out 0
  have z1 := frozB HCw4.out 1
  have hEl := lt_of_block HEw4.out
  have hCl := lt_of_block HCw4.out
  have n00 := cellB' HN0.out 0 rfl
  have n01 := cellB' HN0.out 1 rfl
  have hNl0 := lt_of_block HN0.out
  go_wp2_with fail
  refine (unQ_any name (x.getD 0) _).mono ?_
  rintro e w5 ⟨rfl, rfl⟩
  unfold unV
  have HX := Lib.hid hx
  clear hx
  generalize hu : unop name (x.getD 0) = u
  have HU := Lib.hid hu
  clear hu
  cases x with
  | none =>
    cases u with
    | none =>
      go_wp2_with fail
      obtain ⟨wf, hwf⟩ : ∃ wf, wf = (w5.setCell ⟨w.heap.size + 1, 0, none⟩ (.bool false)).setCell ⟨w.heap.size + 1, 1, none⟩ (.int .i64 0) := ⟨_, rfl⟩
      rw [← hwf]
      obtain ⟨p1, p2, p3, p4, -⟩ := put_cell Hw4.out HCw4.out (by omega) (by omega) _ _ _ hwf
      refine bodyPost_ret (v := cellQ none) (by simp [results, Tryz.results66, go_sem, p2, p3, cellQ]) rfl ?_
      exact ⟨by rw [un_get HX.out]; rfl, by rw [Option.isNone_map]; exact p1, ((HKw4.out.mono (by simp)).trans p4).drop (S := [F]) (by omega)⟩
    | some u =>
      go_wp2_with fail
      obtain ⟨wf, hwf⟩ : ∃ wf, wf = (w5.setCell ⟨w.heap.size + 1, 0, none⟩ (.bool false)).setCell ⟨w.heap.size + 1, 1, none⟩ (.int .i64 0) := ⟨_, rfl⟩
      rw [← hwf]
      obtain ⟨p1, p2, p3, p4, -⟩ := put_cell Hw4.out HCw4.out (by omega) (by omega) _ _ _ hwf
      refine bodyPost_ret (v := cellQ none) (by simp [results, Tryz.results66, go_sem, p2, p3, cellQ]) rfl ?_
      exact ⟨by rw [un_get HX.out]; rfl, by rw [Option.isNone_map]; exact p1, ((HKw4.out.mono (by simp)).trans p4).drop (S := [F]) (by omega)⟩
  | some x =>
    have HU' := Lib.hid (show unop name x = u from HU.out)
    cases u with
    | none =>
      go_wp2_with fail
      obtain ⟨wf, hwf⟩ : ∃ wf, wf = (w5.setCell ⟨w.heap.size + 1, 0, none⟩ (.bool false)).setCell ⟨w.heap.size + 1, 1, none⟩ (.int .i64 0) := ⟨_, rfl⟩
      rw [← hwf]
      obtain ⟨p1, p2, p3, p4, -⟩ := put_cell Hw4.out HCw4.out (by omega) (by omega) _ _ _ hwf
      refine bodyPost_ret (v := cellQ none) (by simp [results, Tryz.results66, go_sem, p2, p3, cellQ]) rfl ?_
      exact ⟨by rw [un_get HX.out, Option.bind_some, HU'.out], by rw [Option.isNone_map]; exact p1, ((HKw4.out.mono (by simp)).trans p4).drop (S := [F]) (by omega)⟩
    | some u =>
      go_wp2_with fail
      obtain ⟨wf, hwf⟩ : ∃ wf, wf = (w5.setCell ⟨w.heap.size + 1, 0, none⟩ (.bool true)).setCell ⟨w.heap.size + 1, 1, none⟩ (.int .i64 u) := ⟨_, rfl⟩
      rw [← hwf]
      obtain ⟨p1, p2, p3, p4, -⟩ := put_cell Hw4.out HCw4.out (by omega) (by omega) _ _ _ hwf
      refine bodyPost_ret (v := cellQ (some u)) (by simp [results, Tryz.results66, go_sem, p2, p3, cellQ]) rfl ?_
      exact ⟨by rw [un_get HX.out, Option.bind_some, HU'.out], by rw [Option.isNone_map]; exact p1, ((HKw4.out.mono (by simp)).trans p4).drop (S := [F]) (by omega)⟩
theorem cell_I64 {r : Option (Option Int)} (h : ∀ x, r = some (some x) → I64 x) : I64 ((r.getD none).getD 0) := by
  rcases r with _ | _ | x
  · unfold I64; simp
  · unfold I64; simp
  · exact h x rfl
theorem bin_get {r r' : Option (Option Int)} {x y : Option Int} {name : ByteArray} (h : r.getD none = x) (h' : r'.getD none = y) :
    (r.bind fun x => r'.map fun y => x.bind fun x => y.bind fun y => binop name x y).getD none = x.bind fun x => y.bind fun y => binop name x y := by
  subst h h'
  rcases r with _ | _ | x <;> rcases r' with _ | _ | y <;> rfl
theorem bin_isNone {r r' : Option (Option Int)} {name : ByteArray} : (r.bind fun x => r'.map fun y => x.bind fun x => y.bind fun y => binop name x y).isNone = (r.isNone || r'.isNone) := by
  rcases r with _ | _ | x <;> rcases r' with _ | _ | y <;> rfl
set_option maxRecDepth 100000 in
set_option maxHeartbeats 2000000 in
theorem vq_bin {W w : World} {lo F R M : Nat} {fv : Value} {base : Nat} {mem : Mem} {cnt : Int} {vs : Vars} {bad : Bool} {vv : Value} (h : FrQ W w lo F R M fv base mem cnt vs bad vv) (name : ByteArray) (v : Int) (vc : Value) (_hvc : vc.oneCell' = true) (b o c : Nat) (hb : b < W.heap.size) (p0 : Int) (s0 : ByteArray) (v0 : Int) (vc0 vk0 : Value) (r0 : Option (Option Int)) (hk0 : KidC W b (o) p0 s0 v0 vc0 vk0) (p1 : Int) (s1 : ByteArray) (v1 : Int) (vc1 vk1 : Value) (r1 : Option (Option Int)) (hk1 : KidC W b (o + 5) p1 s1 v1 vc1 vk1) (hi0 : ∀ x, r0 = some (some x) → I64 x) (hi1 : ∀ x, r1 = some (some x) → I64 x) (IH0 : ∀ (w : World) (bad : Bool), FrQ W w lo F R M fv base mem cnt vs bad vv → Calls Tryz.prog 66 #[.pointer (some ⟨F, 0, none⟩), .agg #[.int .i64 p0, .string s0, .int .i64 v0, vc0, vk0]] w (ValQ W lo F R M fv base mem cnt vs bad vv r0 w)) (IH1 : ∀ (w : World) (bad : Bool), FrQ W w lo F R M fv base mem cnt vs bad vv → Calls Tryz.prog 66 #[.pointer (some ⟨F, 0, none⟩), .agg #[.int .i64 p1, .string s1, .int .i64 v1, vc1, vk1]] w (ValQ W lo F R M fv base mem cnt vs bad vv r1 w)) :
    Calls Tryz.prog 66 #[.pointer (some ⟨F, 0, none⟩), .agg #[.int .i64 6, .string name, .int .i64 v, vc, .slice (some ⟨b, o, none⟩) 2 c]] w (ValQ W lo F R M fv base mem cnt vs bad vv (r0.bind fun x => r1.map fun y => x.bind fun x => y.bind fun y => binop name x y) w) := by
  have hWw := h.rm.below.size
  replace hb : b < w.heap.size := by omega
  have hlo : lo ≤ w.heap.size := by have := lt_of_block h.hF; have := h.geF; omega
  have hFl := lt_of_block h.hF
  go_enter Tryz.func66, Tryz.ntmps66
  go_upto_region 1 with fail
  obtain ⟨w2, hw2⟩ : ∃ w2, w2 = (w.alloc (Obj.cells #[.int .i64 6, .string name, .int .i64 v, vc, .slice (some ⟨b, o, none⟩) 2 c] 85)).alloc (Obj.cells #[.bool false, .int .i64 0] 75) := ⟨_, rfl⟩
  rw [← hw2]
  obtain ⟨hb2, hE, hC⟩ := two_new _ _ _ _ hw2
  clear hw2
  have H := Lib.hid (h.on hb2)
  have HK := Lib.hid (KeepV.of_below (lo := lo) (S := [F]) hb2)
  have HE := Lib.hid hE
  have HC := Lib.hid hC
  have hsz := hb2.size
  have e0 := cellB' hE 0 rfl
  have e1 := cellB' hE 1 rfl
  have e2 := cellB' hE 2 rfl
  have e4 := cellB' hE 4 rfl
  have c0 := cellB' hC 0 rfl
  have c1 := cellB' hC 1 rfl
  have z0 := frozB hC 0
  have z1 := frozB hC 1
  have hEl := lt_of_block hE
  have hCl := lt_of_block hC
  clear h hb2 hE hC
  obtain ⟨g00, g01, g02, g03, g04, g05, g06⟩ := hk0 H.out.rm.below
  have hbl2 : b < w2.heap.size := by omega
  go_wp2_with fail
  refine (IH0 _ _ H.out).mono ?_
  rintro e w3 ⟨rfl, hw3, hkw3⟩
  have Hw3 := Lib.hid hw3
  have HKw3 := Lib.hid (HK.out.trans hkw3)
  have HEw3 := Lib.hid (hkw3.cells HE.out (by simp; omega) (by decide))
  have HCw3 := Lib.hid (hkw3.cells HC.out (by simp; omega) (by decide))
  have hsw3 := hkw3.size
  generalize hx : r0.getD none = x
  unfold cellQ
  clear hkw3 hw3 e0 e1 e2 e4 c0 c1 z0 z1 hEl hCl g00 g01 g02 g03 g04 g05 g06
  go_upto_region 19 with fail
  obtain ⟨w4, hww4⟩ : ∃ w4, w4 = w3.alloc (Obj.cells #[.bool x.isSome, .int .i64 (x.getD 0)] 75) := ⟨_, rfl⟩
  rw [← hww4]
  have hbw4 : Below w3.heap.size w3 w4 := by rw [hww4]; exact (Below.refl _ _).alloc (Nat.le_refl _) _
  have HN0 := Lib.hid (show w4.heap[w3.heap.size]? = some (Obj.cells #[.bool x.isSome, .int .i64 (x.getD 0)] 75 (0, 0)) by rw [hww4]; exact heap_alloc_at _ _)
  have Hw4 := Lib.hid (Hw3.out.on hbw4)
  have HKw4 := Lib.hid (HKw3.out.trans (KeepV.of_below hbw4))
  have HEw4 := Lib.hid ((hbw4.block _ (lt_of_block HEw3.out)).trans HEw3.out)
  have HCw4 := Lib.hid ((hbw4.block _ (lt_of_block HCw3.out)).trans HCw3.out)
  have hsw4 := hbw4.size
  clear hww4 hbw4
  have e0 := cellB' HEw4.out 0 rfl
  have e1 := cellB' HEw4.out 1 rfl
  have e4 := cellB' HEw4.out 4 rfl
  have c0 := cellB' HCw4.out 0 rfl
  have c1 := cellB' HCw4.out 1 rfl
  have z0 := frozB HCw4.out 0
  have z1 := frozB HCw4.out 1
  have hEl := lt_of_block HEw4.out
  have hCl := lt_of_block HCw4.out
  obtain ⟨g10, g11, g12, g13, g14, g15, g16⟩ := hk1 Hw4.out.rm.below
  have hbl4 : b < w4.heap.size := by omega
  go_wp2_with fail
  refine (IH1 _ _ Hw4.out).mono ?_
  rintro e w5 ⟨rfl, hw5, hkw5⟩
  have Hw5 := Lib.hid hw5
  have HKw5 := Lib.hid (HKw4.out.trans hkw5)
  have HEw5 := Lib.hid (hkw5.cells HEw4.out (by simp; omega) (by decide))
  have HCw5 := Lib.hid (hkw5.cells HCw4.out (by simp; omega) (by decide))
  have hsw5 := hkw5.size
  have HN0 := Lib.hid (hkw5.cells HN0.out (by simp; omega) (by decide))
  generalize hy : r1.getD none = y
  unfold cellQ
  clear e0 e1 e4 c0 c1 z0 z1 hEl hCl
  clear hkw5 hw5 g10 g11 g12 g13 g14 g15 g16
  go_upto_region 20 with fail
  obtain ⟨w6, hww6⟩ : ∃ w6, w6 = w5.alloc (Obj.cells #[.bool y.isSome, .int .i64 (y.getD 0)] 75) := ⟨_, rfl⟩
  rw [← hww6]
  have hbw6 : Below w5.heap.size w5 w6 := by rw [hww6]; exact (Below.refl _ _).alloc (Nat.le_refl _) _
  have HN1 := Lib.hid (show w6.heap[w5.heap.size]? = some (Obj.cells #[.bool y.isSome, .int .i64 (y.getD 0)] 75 (0, 0)) by rw [hww6]; exact heap_alloc_at _ _)
  have Hw6 := Lib.hid (Hw5.out.on hbw6)
  have HKw6 := Lib.hid (HKw5.out.trans (KeepV.of_below hbw6))
  have HEw6 := Lib.hid ((hbw6.block _ (lt_of_block HEw5.out)).trans HEw5.out)
  have HCw6 := Lib.hid ((hbw6.block _ (lt_of_block HCw5.out)).trans HCw5.out)
  have hsw6 := hbw6.size
  have HN0 := Lib.hid ((hbw6.block _ (lt_of_block HN0.out)).trans HN0.out)
  clear hww6 hbw6
  have e0 := cellB' HEw6.out 0 rfl
  have e1 := cellB' HEw6.out 1 rfl
  have e4 := cellB' HEw6.out 4 rfl
  have c0 := cellB' HCw6.out 0 rfl
  have c1 := cellB' HCw6.out 1 rfl
  have z0 := frozB HCw6.out 0
  have z1 := frozB HCw6.out 1
  have hEl := lt_of_block HEw6.out
  have hCl := lt_of_block HCw6.out
  have n00 := cellB' HN0.out 0 rfl
  have n01 := cellB' HN0.out 1 rfl
  have hNl0 := lt_of_block HN0.out
  have n10 := cellB' HN1.out 0 rfl
  have n11 := cellB' HN1.out 1 rfl
  have hNl1 := lt_of_block HN1.out
  have HXI := Lib.hid (hx ▸ cell_I64 hi0 : I64 (x.getD 0))
  have HYI := Lib.hid (hy ▸ cell_I64 hi1 : I64 (y.getD 0))
  go_wp2_with fail
  refine (binQ_any name (x.getD 0) (y.getD 0) HXI.out HYI.out _).mono ?_
  rintro e w7 ⟨rfl, rfl⟩
  unfold binV
  have HX := Lib.hid hx
  have HY := Lib.hid hy
  clear hx hy
  generalize hu : binop name (x.getD 0) (y.getD 0) = u
  have HU := Lib.hid hu
  clear hu
  cases x with
  | none =>
    cases y with
    | none =>
      cases u with
      | none =>
        go_wp2_with fail
        obtain ⟨wf, hwf⟩ : ∃ wf, wf = (w7.setCell ⟨w.heap.size + 1, 0, none⟩ (.bool false)).setCell ⟨w.heap.size + 1, 1, none⟩ (.int .i64 0) := ⟨_, rfl⟩
        rw [← hwf]
        obtain ⟨p1, p2, p3, p4, -⟩ := put_cell Hw6.out HCw6.out (by omega) (by omega) _ _ _ hwf
        refine bodyPost_ret (v := cellQ none) (by simp [results, Tryz.results66, go_sem, p2, p3, cellQ]) rfl ?_
        exact ⟨by rw [bin_get HX.out HY.out]; rfl, by rw [bin_isNone, ← Bool.or_assoc]; exact p1, ((HKw6.out.mono (by simp)).trans p4).drop (S := [F]) (by omega)⟩
      | some u =>
        go_wp2_with fail
        obtain ⟨wf, hwf⟩ : ∃ wf, wf = (w7.setCell ⟨w.heap.size + 1, 0, none⟩ (.bool false)).setCell ⟨w.heap.size + 1, 1, none⟩ (.int .i64 0) := ⟨_, rfl⟩
        rw [← hwf]
        obtain ⟨p1, p2, p3, p4, -⟩ := put_cell Hw6.out HCw6.out (by omega) (by omega) _ _ _ hwf
        refine bodyPost_ret (v := cellQ none) (by simp [results, Tryz.results66, go_sem, p2, p3, cellQ]) rfl ?_
        exact ⟨by rw [bin_get HX.out HY.out]; rfl, by rw [bin_isNone, ← Bool.or_assoc]; exact p1, ((HKw6.out.mono (by simp)).trans p4).drop (S := [F]) (by omega)⟩
    | some y =>
      cases u with
      | none =>
        go_wp2_with fail
        obtain ⟨wf, hwf⟩ : ∃ wf, wf = (w7.setCell ⟨w.heap.size + 1, 0, none⟩ (.bool false)).setCell ⟨w.heap.size + 1, 1, none⟩ (.int .i64 0) := ⟨_, rfl⟩
        rw [← hwf]
        obtain ⟨p1, p2, p3, p4, -⟩ := put_cell Hw6.out HCw6.out (by omega) (by omega) _ _ _ hwf
        refine bodyPost_ret (v := cellQ none) (by simp [results, Tryz.results66, go_sem, p2, p3, cellQ]) rfl ?_
        exact ⟨by rw [bin_get HX.out HY.out]; rfl, by rw [bin_isNone, ← Bool.or_assoc]; exact p1, ((HKw6.out.mono (by simp)).trans p4).drop (S := [F]) (by omega)⟩
      | some u =>
        go_wp2_with fail
        obtain ⟨wf, hwf⟩ : ∃ wf, wf = (w7.setCell ⟨w.heap.size + 1, 0, none⟩ (.bool false)).setCell ⟨w.heap.size + 1, 1, none⟩ (.int .i64 0) := ⟨_, rfl⟩
        rw [← hwf]
        obtain ⟨p1, p2, p3, p4, -⟩ := put_cell Hw6.out HCw6.out (by omega) (by omega) _ _ _ hwf
        refine bodyPost_ret (v := cellQ none) (by simp [results, Tryz.results66, go_sem, p2, p3, cellQ]) rfl ?_
        exact ⟨by rw [bin_get HX.out HY.out]; rfl, by rw [bin_isNone, ← Bool.or_assoc]; exact p1, ((HKw6.out.mono (by simp)).trans p4).drop (S := [F]) (by omega)⟩
  | some x =>
    cases y with
    | none =>
      cases u with
      | none =>
        go_wp2_with fail
        obtain ⟨wf, hwf⟩ : ∃ wf, wf = (w7.setCell ⟨w.heap.size + 1, 0, none⟩ (.bool false)).setCell ⟨w.heap.size + 1, 1, none⟩ (.int .i64 0) := ⟨_, rfl⟩
        rw [← hwf]
        obtain ⟨p1, p2, p3, p4, -⟩ := put_cell Hw6.out HCw6.out (by omega) (by omega) _ _ _ hwf
        refine bodyPost_ret (v := cellQ none) (by simp [results, Tryz.results66, go_sem, p2, p3, cellQ]) rfl ?_
        exact ⟨by rw [bin_get HX.out HY.out]; rfl, by rw [bin_isNone, ← Bool.or_assoc]; exact p1, ((HKw6.out.mono (by simp)).trans p4).drop (S := [F]) (by omega)⟩
      | some u =>
        go_wp2_with fail
        obtain ⟨wf, hwf⟩ : ∃ wf, wf = (w7.setCell ⟨w.heap.size + 1, 0, none⟩ (.bool false)).setCell ⟨w.heap.size + 1, 1, none⟩ (.int .i64 0) := ⟨_, rfl⟩
        rw [← hwf]
        obtain ⟨p1, p2, p3, p4, -⟩ := put_cell Hw6.out HCw6.out (by omega) (by omega) _ _ _ hwf
        refine bodyPost_ret (v := cellQ none) (by simp [results, Tryz.results66, go_sem, p2, p3, cellQ]) rfl ?_
        exact ⟨by rw [bin_get HX.out HY.out]; rfl, by rw [bin_isNone, ← Bool.or_assoc]; exact p1, ((HKw6.out.mono (by simp)).trans p4).drop (S := [F]) (by omega)⟩
    | some y =>
      have HU' := Lib.hid (show binop name x y = u from HU.out)
      cases u with
      | none =>
        go_wp2_with fail
        obtain ⟨wf, hwf⟩ : ∃ wf, wf = (w7.setCell ⟨w.heap.size + 1, 0, none⟩ (.bool false)).setCell ⟨w.heap.size + 1, 1, none⟩ (.int .i64 0) := ⟨_, rfl⟩
        rw [← hwf]
        obtain ⟨p1, p2, p3, p4, -⟩ := put_cell Hw6.out HCw6.out (by omega) (by omega) _ _ _ hwf
        refine bodyPost_ret (v := cellQ none) (by simp [results, Tryz.results66, go_sem, p2, p3, cellQ]) rfl ?_
        exact ⟨by rw [bin_get HX.out HY.out, Option.bind_some, Option.bind_some, HU'.out], by rw [bin_isNone, ← Bool.or_assoc]; exact p1, ((HKw6.out.mono (by simp)).trans p4).drop (S := [F]) (by omega)⟩
      | some u =>
        go_wp2_with fail
        obtain ⟨wf, hwf⟩ : ∃ wf, wf = (w7.setCell ⟨w.heap.size + 1, 0, none⟩ (.bool true)).setCell ⟨w.heap.size + 1, 1, none⟩ (.int .i64 u) := ⟨_, rfl⟩
        rw [← hwf]
        obtain ⟨p1, p2, p3, p4, -⟩ := put_cell Hw6.out HCw6.out (by omega) (by omega) _ _ _ hwf
        refine bodyPost_ret (v := cellQ (some u)) (by simp [results, Tryz.results66, go_sem, p2, p3, cellQ]) rfl ?_
        exact ⟨by rw [bin_get HX.out HY.out, Option.bind_some, Option.bind_some, HU'.out], by rw [bin_isNone, ← Bool.or_assoc]; exact p1, ((HKw6.out.mono (by simp)).trans p4).drop (S := [F]) (by omega)⟩
def ifS (r0 r1 r2 : Option (Option Int)) : Option (Option Int) := r0.bind fun x => match x with
  | none => some none
  | some v => if v ≠ 0 then r1 else r2
theorem if_getN {r0 r1 r2 : Option (Option Int)} (h : r0.getD none = none) : (ifS r0 r1 r2).getD none = none := by
  rcases r0 with _ | _ | x
  · rfl
  · rfl
  · simp at h
theorem if_isNoneN {r0 r1 r2 : Option (Option Int)} (h : r0.getD none = none) : (ifS r0 r1 r2).isNone = r0.isNone := by
  rcases r0 with _ | _ | x
  · rfl
  · rfl
  · simp at h
theorem if_yes {r0 : Option (Option Int)} {x : Int} (h : r0.getD none = some x) : r0.isNone = false := by
  rcases r0 with _ | _ | x
  · simp at h
  · simp at h
  · rfl
theorem if_is {r0 r1 r2 : Option (Option Int)} {x : Int} (h : r0.getD none = some x) : ifS r0 r1 r2 = if x ≠ 0 then r1 else r2 := by
  rcases r0 with _ | _ | y
  · simp at h
  · simp at h
  · simp at h; subst h; rfl
theorem if_get1 {r0 r1 r2 : Option (Option Int)} {x : Int} (h : r0.getD none = some x) (hx : ¬ x = 0) : (ifS r0 r1 r2).getD none = r1.getD none := by rw [if_is h, if_pos hx]
theorem if_get2 {r0 r1 r2 : Option (Option Int)} {x : Int} (h : r0.getD none = some x) (hx : x = 0) : (ifS r0 r1 r2).getD none = r2.getD none := by rw [if_is h, if_neg (by simpa using hx)]
theorem if_isNone1 {r0 r1 r2 : Option (Option Int)} {x : Int} (h : r0.getD none = some x) (hx : ¬ x = 0) : (ifS r0 r1 r2).isNone = r1.isNone := by rw [if_is h, if_pos hx]
theorem if_isNone2 {r0 r1 r2 : Option (Option Int)} {x : Int} (h : r0.getD none = some x) (hx : x = 0) : (ifS r0 r1 r2).isNone = r2.isNone := by rw [if_is h, if_neg (by simpa using hx)]
set_option maxRecDepth 100000 in
set_option maxHeartbeats 2000000 in
theorem vq_if {W w : World} {lo F R M : Nat} {fv : Value} {base : Nat} {mem : Mem} {cnt : Int} {vs : Vars} {bad : Bool} {vv : Value} (h : FrQ W w lo F R M fv base mem cnt vs bad vv) (name : ByteArray) (v : Int) (vc : Value) (_hvc : vc.oneCell' = true) (b o c : Nat) (hb : b < W.heap.size) (p0 : Int) (s0 : ByteArray) (v0 : Int) (vc0 vk0 : Value) (r0 : Option (Option Int)) (hk0 : KidC W b (o) p0 s0 v0 vc0 vk0) (p1 : Int) (s1 : ByteArray) (v1 : Int) (vc1 vk1 : Value) (r1 : Option (Option Int)) (hk1 : KidC W b (o + 5) p1 s1 v1 vc1 vk1) (p2 : Int) (s2 : ByteArray) (v2 : Int) (vc2 vk2 : Value) (r2 : Option (Option Int)) (hk2 : KidC W b (o + 10) p2 s2 v2 vc2 vk2) (IH0 : ∀ (w : World) (bad : Bool), FrQ W w lo F R M fv base mem cnt vs bad vv → Calls Tryz.prog 66 #[.pointer (some ⟨F, 0, none⟩), .agg #[.int .i64 p0, .string s0, .int .i64 v0, vc0, vk0]] w (ValQ W lo F R M fv base mem cnt vs bad vv r0 w)) (IH1 : ∀ (w : World) (bad : Bool), FrQ W w lo F R M fv base mem cnt vs bad vv → Calls Tryz.prog 66 #[.pointer (some ⟨F, 0, none⟩), .agg #[.int .i64 p1, .string s1, .int .i64 v1, vc1, vk1]] w (ValQ W lo F R M fv base mem cnt vs bad vv r1 w)) (IH2 : ∀ (w : World) (bad : Bool), FrQ W w lo F R M fv base mem cnt vs bad vv → Calls Tryz.prog 66 #[.pointer (some ⟨F, 0, none⟩), .agg #[.int .i64 p2, .string s2, .int .i64 v2, vc2, vk2]] w (ValQ W lo F R M fv base mem cnt vs bad vv r2 w)) :
    Calls Tryz.prog 66 #[.pointer (some ⟨F, 0, none⟩), .agg #[.int .i64 7, .string name, .int .i64 v, vc, .slice (some ⟨b, o, none⟩) 3 c]] w (ValQ W lo F R M fv base mem cnt vs bad vv (ifS r0 r1 r2) w) := by
  have hWw := h.rm.below.size
  replace hb : b < w.heap.size := by omega
  have hlo : lo ≤ w.heap.size := by have := lt_of_block h.hF; have := h.geF; omega
  have hFl := lt_of_block h.hF
  go_enter Tryz.func66, Tryz.ntmps66
  go_upto_region 1 with fail
  obtain ⟨w2, hw2⟩ : ∃ w2, w2 = (w.alloc (Obj.cells #[.int .i64 7, .string name, .int .i64 v, vc, .slice (some ⟨b, o, none⟩) 3 c] 85)).alloc (Obj.cells #[.bool false, .int .i64 0] 75) := ⟨_, rfl⟩
  rw [← hw2]
  obtain ⟨hb2, hE, hC⟩ := two_new _ _ _ _ hw2
  clear hw2
  have H := Lib.hid (h.on hb2)
  have HK := Lib.hid (KeepV.of_below (lo := lo) (S := [F]) hb2)
  have HE := Lib.hid hE
  have HC := Lib.hid hC
  have hsz := hb2.size
  have e0 := cellB' hE 0 rfl
  have e1 := cellB' hE 1 rfl
  have e2 := cellB' hE 2 rfl
  have e4 := cellB' hE 4 rfl
  have c0 := cellB' hC 0 rfl
  have c1 := cellB' hC 1 rfl
  have z0 := frozB hC 0
  have z1 := frozB hC 1
  have hEl := lt_of_block hE
  have hCl := lt_of_block hC
  clear h hb2 hE hC
  obtain ⟨g00, g01, g02, g03, g04, g05, g06⟩ := hk0 H.out.rm.below
  have hbl2 : b < w2.heap.size := by omega
  go_wp2_with fail
  refine (IH0 _ _ H.out).mono ?_
  rintro e w3 ⟨rfl, hw3, hkw3⟩
  have Hw3 := Lib.hid hw3
  have HKw3 := Lib.hid (HK.out.trans hkw3)
  have HEw3 := Lib.hid (hkw3.cells HE.out (by simp; omega) (by decide))
  have HCw3 := Lib.hid (hkw3.cells HC.out (by simp; omega) (by decide))
  have hsw3 := hkw3.size
  generalize hx : r0.getD none = x
  unfold cellQ
  clear hkw3 hw3 e0 e1 e2 e4 c0 c1 z0 z1 hEl hCl g00 g01 g02 g03 g04 g05 g06
  go_upto_region 25 with fail
  obtain ⟨w4, hww4⟩ : ∃ w4, w4 = w3.alloc (Obj.cells #[.bool x.isSome, .int .i64 (x.getD 0)] 75) := ⟨_, rfl⟩
  rw [← hww4]
  have hbw4 : Below w3.heap.size w3 w4 := by rw [hww4]; exact (Below.refl _ _).alloc (Nat.le_refl _) _
  have HN0 := Lib.hid (show w4.heap[w3.heap.size]? = some (Obj.cells #[.bool x.isSome, .int .i64 (x.getD 0)] 75 (0, 0)) by rw [hww4]; exact heap_alloc_at _ _)
  have Hw4 := Lib.hid (Hw3.out.on hbw4)
  have HKw4 := Lib.hid (HKw3.out.trans (KeepV.of_below hbw4))
  have HEw4 := Lib.hid ((hbw4.block _ (lt_of_block HEw3.out)).trans HEw3.out)
  have HCw4 := Lib.hid ((hbw4.block _ (lt_of_block HCw3.out)).trans HCw3.out)
  have hsw4 := hbw4.size
  clear hww4 hbw4
  have e0 := cellB' HEw4.out 0 rfl
  have e1 := cellB' HEw4.out 1 rfl
  have e4 := cellB' HEw4.out 4 rfl
  have c0 := cellB' HCw4.out 0 rfl
  have c1 := cellB' HCw4.out 1 rfl
  have z0 := frozB HCw4.out 0
  have z1 := frozB HCw4.out 1
  have hEl := lt_of_block HEw4.out
  have hCl := lt_of_block HCw4.out
  have n00 := cellB' HN0.out 0 rfl
  have n01 := cellB' HN0.out 1 rfl
  have hNl0 := lt_of_block HN0.out
  have HX := Lib.hid hx
  clear hx
  cases x with
  | none =>
    go_wp2_with fail
    obtain ⟨wf, hwf⟩ : ∃ wf, wf = (w4.setCell ⟨w.heap.size + 1, 0, none⟩ (.bool false)).setCell ⟨w.heap.size + 1, 1, none⟩ (.int .i64 0) := ⟨_, rfl⟩
    rw [← hwf]
    obtain ⟨p1, p2, p3, p4, -⟩ := put_cell Hw4.out HCw4.out (by omega) (by omega) _ _ _ hwf
    refine bodyPost_ret (v := cellQ none) (by simp [results, Tryz.results66, go_sem, p2, p3, cellQ]) rfl ?_
    exact ⟨by rw [if_getN HX.out], by rw [if_isNoneN HX.out]; exact p1, ((HKw4.out.mono (by simp)).trans p4).drop (S := [F]) (by omega)⟩
  | some x =>
    have HX0 := Lib.hid (if_yes HX.out)
    by_cases hx0 : x = 0
    · have d1 : (x != 0) = false := by simp [hx0]
      obtain ⟨g10, g11, g12, g13, g14, g15, g16⟩ := hk2 Hw4.out.rm.below
      have hbl4 : b < w4.heap.size := by omega
      go_wp2_with fail
      refine (IH2 _ _ Hw4.out).mono ?_
      rintro e w5 ⟨rfl, hw5, hkw5⟩
      have Hw5 := Lib.hid hw5
      have HKw5 := Lib.hid (HKw4.out.trans hkw5)
      have HEw5 := Lib.hid (hkw5.cells HEw4.out (by simp; omega) (by decide))
      have HCw5 := Lib.hid (hkw5.cells HCw4.out (by simp; omega) (by decide))
      have hsw5 := hkw5.size
      generalize hy : r2.getD none = y
      unfold cellQ
      clear e0 e1 e4 c0 c1 z0 z1 hEl hCl
      clear hkw5 hw5 g10 g11 g12 g13 g14 g15 g16 n00 n01 hNl0
      go_upto_region 31 with fail
      obtain ⟨w6, hww6⟩ : ∃ w6, w6 = w5.alloc (Obj.cells #[.bool y.isSome, .int .i64 (y.getD 0)] 75) := ⟨_, rfl⟩
      rw [← hww6]
      have hbw6 : Below w5.heap.size w5 w6 := by rw [hww6]; exact (Below.refl _ _).alloc (Nat.le_refl _) _
      have HN1 := Lib.hid (show w6.heap[w5.heap.size]? = some (Obj.cells #[.bool y.isSome, .int .i64 (y.getD 0)] 75 (0, 0)) by rw [hww6]; exact heap_alloc_at _ _)
      have Hw6 := Lib.hid (Hw5.out.on hbw6)
      have HKw6 := Lib.hid (HKw5.out.trans (KeepV.of_below hbw6))
      have HEw6 := Lib.hid ((hbw6.block _ (lt_of_block HEw5.out)).trans HEw5.out)
      have HCw6 := Lib.hid ((hbw6.block _ (lt_of_block HCw5.out)).trans HCw5.out)
      have hsw6 := hbw6.size
      clear hww6 hbw6
      have e0 := cellB' HEw6.out 0 rfl
      have e1 := cellB' HEw6.out 1 rfl
      have e4 := cellB' HEw6.out 4 rfl
      have c0 := cellB' HCw6.out 0 rfl
      have c1 := cellB' HCw6.out 1 rfl
      have z0 := frozB HCw6.out 0
      have z1 := frozB HCw6.out 1
      have hEl := lt_of_block HEw6.out
      have hCl := lt_of_block HCw6.out
      have n10 := cellB' HN1.out 0 rfl
      have n11 := cellB' HN1.out 1 rfl
      have hNl1 := lt_of_block HN1.out
      go_wp2_with fail
      obtain ⟨wf, hwf⟩ : ∃ wf, wf = (w6.setCell ⟨w.heap.size + 1, 0, none⟩ (.bool y.isSome)).setCell ⟨w.heap.size + 1, 1, none⟩ (.int .i64 (y.getD 0)) := ⟨_, rfl⟩
      rw [← hwf]
      obtain ⟨p1, p2, p3, p4, -⟩ := put_cell Hw6.out HCw6.out (by omega) (by omega) _ _ _ hwf
      refine bodyPost_ret (v := cellQ y) (by simp [results, Tryz.results66, go_sem, p2, p3, cellQ]) rfl ?_
      exact ⟨by rw [if_get2 HX.out hx0, hy], by rw [if_isNone2 HX.out hx0]; simpa [HX0.out] using p1, ((HKw6.out.mono (by simp)).trans p4).drop (S := [F]) (by omega)⟩
    · have d1 : (x != 0) = true := by simp [hx0]
      obtain ⟨g10, g11, g12, g13, g14, g15, g16⟩ := hk1 Hw4.out.rm.below
      have hbl4 : b < w4.heap.size := by omega
      go_wp2_with fail
      refine (IH1 _ _ Hw4.out).mono ?_
      rintro e w5 ⟨rfl, hw5, hkw5⟩
      have Hw5 := Lib.hid hw5
      have HKw5 := Lib.hid (HKw4.out.trans hkw5)
      have HEw5 := Lib.hid (hkw5.cells HEw4.out (by simp; omega) (by decide))
      have HCw5 := Lib.hid (hkw5.cells HCw4.out (by simp; omega) (by decide))
      have hsw5 := hkw5.size
      generalize hy : r1.getD none = y
      unfold cellQ
      clear e0 e1 e4 c0 c1 z0 z1 hEl hCl
      clear hkw5 hw5 g10 g11 g12 g13 g14 g15 g16 n00 n01 hNl0
      go_upto_region 31 with fail
      obtain ⟨w6, hww6⟩ : ∃ w6, w6 = w5.alloc (Obj.cells #[.bool y.isSome, .int .i64 (y.getD 0)] 75) := ⟨_, rfl⟩
      rw [← hww6]
      have hbw6 : Below w5.heap.size w5 w6 := by rw [hww6]; exact (Below.refl _ _).alloc (Nat.le_refl _) _
      have HN1 := Lib.hid (show w6.heap[w5.heap.size]? = some (Obj.cells #[.bool y.isSome, .int .i64 (y.getD 0)] 75 (0, 0)) by rw [hww6]; exact heap_alloc_at _ _)
      have Hw6 := Lib.hid (Hw5.out.on hbw6)
      have HKw6 := Lib.hid (HKw5.out.trans (KeepV.of_below hbw6))
      have HEw6 := Lib.hid ((hbw6.block _ (lt_of_block HEw5.out)).trans HEw5.out)
      have HCw6 := Lib.hid ((hbw6.block _ (lt_of_block HCw5.out)).trans HCw5.out)
      have hsw6 := hbw6.size
      clear hww6 hbw6
      have e0 := cellB' HEw6.out 0 rfl
      have e1 := cellB' HEw6.out 1 rfl
      have e4 := cellB' HEw6.out 4 rfl
      have c0 := cellB' HCw6.out 0 rfl
      have c1 := cellB' HCw6.out 1 rfl
      have z0 := frozB HCw6.out 0
      have z1 := frozB HCw6.out 1
      have hEl := lt_of_block HEw6.out
      have hCl := lt_of_block HCw6.out
      have n10 := cellB' HN1.out 0 rfl
      have n11 := cellB' HN1.out 1 rfl
      have hNl1 := lt_of_block HN1.out
      go_wp2_with fail
      obtain ⟨wf, hwf⟩ : ∃ wf, wf = (w6.setCell ⟨w.heap.size + 1, 0, none⟩ (.bool y.isSome)).setCell ⟨w.heap.size + 1, 1, none⟩ (.int .i64 (y.getD 0)) := ⟨_, rfl⟩
      rw [← hwf]
      obtain ⟨p1, p2, p3, p4, -⟩ := put_cell Hw6.out HCw6.out (by omega) (by omega) _ _ _ hwf
      refine bodyPost_ret (v := cellQ y) (by simp [results, Tryz.results66, go_sem, p2, p3, cellQ]) rfl ?_
      exact ⟨by rw [if_get1 HX.out hx0, hy], by rw [if_isNone1 HX.out hx0]; simpa [HX0.out] using p1, ((HKw6.out.mono (by simp)).trans p4).drop (S := [F]) (by omega)⟩
end Go.Proofs.YtoaajpppbjaomaaGreatDoor
