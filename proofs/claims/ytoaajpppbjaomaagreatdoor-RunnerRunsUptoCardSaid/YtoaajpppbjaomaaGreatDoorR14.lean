/- Texts merged by program: parts Cr, Cs, Ct, Cu, Cv, Cw. -/
import Derived.Test.YtoaajpppbjaomaaGreatDoorR13
import Derived.Lib.LazyBuf
/- The reference's Takes. -/
namespace Go.Proofs.YtoaajpppbjaomaaGreatDoor
open Go.RowKit
theorem takesUpto_len (funs : List FN) : ∀ k, (takesUpto funs k).length = k
  | 0 => rfl
  | k + 1 => by simp [takesUpto, takesUpto_len funs k]
theorem takesUpto_small (funs : List FN) : ∀ k, Small (takesUpto funs k)
  | 0 => fun x hx => by simp [takesUpto] at hx
  | k + 1 => fun x hx => by
    have ih := takesUpto_small funs k
    simp only [takesUpto, List.mem_append, List.mem_singleton] at hx
    rcases hx with hx | rfl
    · exact ih x hx
    · have h1 := takesL_ge (c := 1001) (w := takesUpto funs k) (by omega) (fun x hx => (ih x hx).1) (funs.getD k default).body 0 (by omega)
      omega
def UQ (ls : Nat → List Int) (n : Nat) (w w1 : World) (v i : Value) (wr : World) : Prop :=
  ∃ k : Nat, k ≤ n ∧ i = .int .i64 k ∧ wr.ownsRow w1.heap.size 3 1 v k ((ls k).map (Value.int .i64)) ∧ Below w.heap.size w wr ∧ Below w1.heap.size w1 wr
structure UPost (ls : List Int) (w : World) (e : Ending) (w' : World) : Prop where
  ret : ∃ v, e = .returned v ∧ Ints w' v ls
  below : Below w.heap.size w w'
set_option maxRecDepth 100000 in
set_option maxHeartbeats 1000000 in
theorem takesf_any {W : World} {funs : List FN} {nf : Nat} {fv : Value} (w : World) (hW : Below W.heap.size W w) (hrep : RepV (RepF W nf) 6 W fv funs) (hr : rightF funs = true) :
    Calls Tryz.prog 24 #[.agg #[fv]] w (UPost (takesUpto funs funs.length) w) := by
  obtain ⟨A, c, rfl, hc1, hc2, hll⟩ := hrep.sl
  have HREP := Lib.hid hrep
  have HW := Lib.hid hW
  have hW0 := hW.size
  have HRP := Lib.hid (rightP_of hr)
  clear hrep hW hr
  go_enter Tryz.func24, Tryz.ntmps24
  go_wp2_with fail
  have hb0 : Below w.heap.size w (w.alloc (Obj.cells #[.slice A funs.length c] 24)) := (Below.refl _ _).alloc (Nat.le_refl _) _
  have hN0 : (w.alloc (Obj.cells #[.slice A funs.length c] 24)).heap[w.heap.size]? = some (Obj.cells #[.slice A funs.length c] 24 (0, 0)) := heap_alloc_at _ _
  generalize w.alloc (Obj.cells #[.slice A funs.length c] 24) = w1 at hb0 hN0 ⊢
  have HB1 := Lib.hid hb0
  have HN1 := Lib.hid hN0
  have hbs1 := HB1.out.size
  have hN1l := lt_of_block HN1.out
  clear hb0 hN0
  go_loopw [3, 4] (fun v i wr => UQ (takesUpto funs) funs.length w w1 v i wr) (fun _ i _ => funs.length - (intOf i).toNat)
  case atStart => exact ⟨0, Nat.zero_le _, rfl, World.ownsRow_nil _ _ _ _, HB1.out, Below.refl _ _⟩
  case round =>
    obtain ⟨k, hk, rfl, hod, hb, hb'⟩ := hrel
    have hdl := takesUpto_len funs k
    have HBD := Lib.hid (takesUpto_small funs k)
    have HTU := Lib.hid (show takesUpto funs (k + 1) = takesUpto funs k ++ [min (1 + takesL 1001 (takesUpto funs k) (funs.getD k default).body 0) 1001] from rfl)
    have HFIN := Lib.hid (show k = funs.length → takesUpto funs k = takesUpto funs funs.length from fun h => by rw [h])
    generalize takesUpto funs k = ds at hod hdl HBD HTU HFIN
    have HOD := Lib.hid hod
    have HB := Lib.hid hb
    have HB' := Lib.hid hb'
    have hbs := hb.size
    have hbs' := hb'.size
    have m0 := (hb'.cell (p := ⟨w.heap.size, 0, none⟩) hN1l).trans (cellB' HN1.out 0 rfl)
    have hNl : w.heap.size < wr.heap.size := Nat.lt_of_lt_of_le hN1l hb'.size
    obtain ⟨Ad, cd, hvd, hdc⟩ := own_ints hod hdl
    rw [hdl] at hvd
    subst hvd
    clear hod hb hb' hdc
    by_cases hlt : k < funs.length
    · have hca := HRP.out.calls k hlt
      generalize hf : funs.getD k default = f at hca HTU
      obtain ⟨b, o, c', Ap, cp, Ar, cr, Af, cf, Aq, cq, Ab, cb, hsl, -, hbW, k0, k1, k2, k3, k4, k5, r1, r2, r3, r4, r5⟩ := fn_cells HREP.out (HW.out.trans (HB.out.mono hW0)) hlt hf
      injection hsl with e1 e2 e3
      subst e1
      have hbl : b < wr.heap.size := by omega
      have HFB := Lib.hid r5
      have HCA := Lib.hid hca
      have hxa := takesL_ge (c := 1001) (w := ds) (by omega) (fun x hx => (HBD.out x hx).1) f.body 0 (Int.le_refl _)
      have hxb := takesL_le (c := 1001) (w := ds) f.body 0 (by omega)
      clear hf e2 e3 hca r1 r2 r3 r4 r5 k0 k1 k2 k3 k4
      go_wp2_with fail
      refine (takes_any W nf f.body Ab cb k wr _ ds (HW.out.trans (HB.out.mono hW0)) HFB.out HCA.out (by omega) (own_ints HOD.out hdl) HBD.out (by omega)).mono ?_
      rintro e5 w5 ⟨rfl, hb5⟩
      generalize takesL 1001 ds f.body 0 = x at hxa hxb HTU ⊢
      have HOD5 := Lib.hid (own_below2 HOD.out hb5)
      have HB5 := Lib.hid (HB.out.trans (hb5.mono hbs))
      have HB5' := Lib.hid (HB'.out.trans (hb5.mono HB'.out.size))
      have hbs5' := HB5'.out.size
      have hbs5 := HB5.out.size
      clear hb5 k5 m0 hNl hbl HOD HB HB' hbs hbs'
      go_wp2_with (at_builtin; go_loud (refine append_int rfl (.tmp 12) (.tmp 23) rfl w1.heap.size _ k _ rfl (HOD5.out.alloc _) ⟨w5.heap.size, 0, none⟩ _ rfl (cellB' (heap_alloc_at w5 _) 0 rfl) (by omega) (by simp; omega) ?_))
      intro vd' w6 hod6 hgr6 hfr6
      have hb6' : Below w1.heap.size w1 w6 := grow_below1 (HB5'.out.trans (((Below.refl w5.heap.size w5).alloc (Nat.le_refl _) _).mono hbs5')) (by simp; omega) (HOD5.out.alloc _) hgr6
      have HOD6 := Lib.hid (show w6.ownsRow w1.heap.size 3 1 vd' (k + 1) ((takesUpto funs (k + 1)).map (Value.int .i64)) by
        rw [HTU.out, List.map_append]
        refine (congrArg (fun z => w6.ownsRow w1.heap.size 3 1 vd' (k + 1) (ds.map (Value.int .i64) ++ [Value.int .i64 z])) ?_).mp hod6
        omega)
      have HB6' := Lib.hid hb6'
      clear hod6 hb6' hgr6 hfr6
      go_wp2_with fail
      exact ⟨⟨k + 1, hlt, by simp, HOD6.out, HB1.out.trans (HB6'.out.mono hbs1), HB6'.out⟩, by simp [intOf]; omega⟩
    · obtain rfl : k = funs.length := by omega
      go_wp2_with fail
      go_ret
      have hq := own_ints HOD.out hdl
      rw [HFIN.out trivial] at hq
      exact ⟨⟨_, rfl, hq⟩, HB.out⟩
end Go.Proofs.YtoaajpppbjaomaaGreatDoor
/- The reference's Weighs. -/
namespace Go.Proofs.YtoaajpppbjaomaaGreatDoor
open Go.RowKit
def WPR (f : FN) (ds : List Int) (w2 : World) (n i : Value) (wr : World) : Prop :=
  ∃ (j : Nat) (m : Int), j ≤ f.parts.length ∧ i = .int .i64 j ∧ n = .int .i64 m ∧ m = (f.parts.take j).foldl (fun n p => min (n + ds.getD p.fn.toNat 0) 1001) 1 ∧ wr = w2
set_option maxRecDepth 100000 in
set_option maxHeartbeats 1000000 in
theorem weighsf_any {W : World} {funs : List FN} {nf : Nat} {fv : Value} (w : World) (hW : Below W.heap.size W w) (hrep : RepV (RepF W nf) 6 W fv funs) (hr : rightF funs = true) :
    Calls Tryz.prog 23 #[.agg #[fv]] w (UPost (weightsUpto funs funs.length) w) := by
  obtain ⟨A, c, rfl, hc1, hc2, hll⟩ := hrep.sl
  have HREP := Lib.hid hrep
  have HW := Lib.hid hW
  have hW0 := hW.size
  have HRP := Lib.hid (rightP_of hr)
  clear hrep hW hr
  go_enter Tryz.func23, Tryz.ntmps23
  go_wp2_with fail
  have hb0 : Below w.heap.size w (w.alloc (Obj.cells #[.slice A funs.length c] 24)) := (Below.refl _ _).alloc (Nat.le_refl _) _
  have hN0 : (w.alloc (Obj.cells #[.slice A funs.length c] 24)).heap[w.heap.size]? = some (Obj.cells #[.slice A funs.length c] 24 (0, 0)) := heap_alloc_at _ _
  generalize w.alloc (Obj.cells #[.slice A funs.length c] 24) = w1 at hb0 hN0 ⊢
  have HB1 := Lib.hid hb0
  have HN1 := Lib.hid hN0
  have hbs1 := HB1.out.size
  have hN1l := lt_of_block HN1.out
  clear hb0 hN0
  go_loopw [3, 4] (fun v i wr => UQ (weightsUpto funs) funs.length w w1 v i wr) (fun _ i _ => funs.length - (intOf i).toNat)
  case atStart => exact ⟨0, Nat.zero_le _, rfl, World.ownsRow_nil _ _ _ _, HB1.out, Below.refl _ _⟩
  case round =>
    obtain ⟨k, hk, rfl, hod, hb, hb'⟩ := hrel
    have hdl := weightsUpto_len funs k
    have HBD := Lib.hid (weightsUpto_small funs k)
    have HTU := Lib.hid (show weightsUpto funs (k + 1) = weightsUpto funs k ++ [weightAt (weightsUpto funs k) (funs.getD k default)] from rfl)
    have HFIN := Lib.hid (show k = funs.length → weightsUpto funs k = weightsUpto funs funs.length from fun h => by rw [h])
    generalize weightsUpto funs k = ds at hod hdl HBD HTU HFIN
    have HOD := Lib.hid hod
    have HB := Lib.hid hb
    have HB' := Lib.hid hb'
    have hbs := hb.size
    have hbs' := hb'.size
    have m0 := (hb'.cell (p := ⟨w.heap.size, 0, none⟩) hN1l).trans (cellB' HN1.out 0 rfl)
    have hNl : w.heap.size < wr.heap.size := Nat.lt_of_lt_of_le hN1l hb'.size
    obtain ⟨Ad, cd, hvd, hdc⟩ := own_ints hod hdl
    rw [hdl] at hvd
    subst hvd
    clear hod hb hb' hdc
    by_cases hlt : k < funs.length
    · have hpa := HRP.out.parts k hlt
      generalize hf : funs.getD k default = f at hpa HTU
      obtain ⟨b, o, c', Ap, cp, Ar, cr, Af, cf, Aq, cq, Ab, cb, hsl, -, hbW, k0, k1, k2, k3, k4, k5, r1, r2, r3, r4, r5⟩ := fn_cells HREP.out (HW.out.trans (HB.out.mono hW0)) hlt hf
      injection hsl with e1 e2 e3
      subst e1
      have hbl : b < wr.heap.size := by omega
      have HFQ := Lib.hid r4
      have hfq := r4.1
      have HPA := Lib.hid hpa
      clear hf e2 e3 hpa r1 r2 r3 r4 r5 k0 k1 k2 k3 k5
      go_wp2_with fail
      go_loopw [5, 6] (fun n i w2 => WPR f ds wr n i w2) (fun _ i _ => f.parts.length - (intOf i).toNat)
      case atStart => exact ⟨0, 1, Nat.zero_le _, rfl, rfl, rfl, rfl⟩
      case round =>
        obtain ⟨j, m, hj, rfl, rfl, hm, rfl⟩ := hrel
        have hmb := weightAt_ge ds (fun x hx => (HBD.out x hx).1) (f.parts.take j) 1 (by omega)
        rw [← hm] at hmb
        have HM := Lib.hid hm
        clear hm
        by_cases hlt2 : j < f.parts.length
        · obtain ⟨bp, op, cp', hpe, hbp, hp0, hp1, hpI0, hpI1⟩ := partL_cell HFQ.out (HW.out.trans (HB.out.mono hW0)) hlt2
          injection hpe with e1 e2 e3
          subst e1
          have hp := HPA.out f.parts[j] (List.getElem_mem _)
          have HG := Lib.hid (List.getElem?_eq_getElem hlt2)
          generalize f.parts[j] = p at hp0 hp1 hp HG
          obtain ⟨pa, pf⟩ := p
          simp only at hp0 hp1 hp
          obtain ⟨fk, rfl⟩ := Int.eq_ofNat_of_zero_le hp.1
          have hfl : fk < ds.length := by omega
          obtain ⟨bt, ot, ct', het, hbt, hct⟩ := int_cell (own_ints HOD.out hdl) hfl
          injection het with e4 e5 e6
          subst e4
          have hx := HBD.out ds[fk] (List.getElem_mem _)
          have HXQ := Lib.hid (show ds.getD fk 0 = ds[fk] by rw [List.getD_eq_getElem?_getD, List.getElem?_eq_getElem hfl]; rfl)
          generalize ds[fk] = xv at hct hx HXQ
          have hbpl : bp < wr.heap.size := by omega
          have hfk : fk < k := by omega
          clear e2 e3 e5 e6 hp
          go_wp2_with fail
          refine ⟨⟨j + 1, min (m + xv) 1001, hlt2, by simp, ?_, ?_, rfl⟩, by simp [intOf]; omega⟩
          · first | rfl | (congr 1; omega) | (congr 1; split <;> omega)
          · rw [take_snoc' HG.out, List.foldl_append, ← HM.out, List.foldl_cons, List.foldl_nil, Int.toNat_natCast, HXQ.out]
        · obtain rfl : j = f.parts.length := by omega
          have HMF := Lib.hid (show weightAt ds f = m by rw [HM.out, List.take_length]; rfl)
          go_wp2_with (at_builtin; go_loud (refine append_int rfl (.tmp 41) (.tmp 43) rfl w1.heap.size _ k _ rfl (HOD.out.alloc _) ⟨wr.heap.size, 0, none⟩ _ rfl (cellB' (heap_alloc_at wr _) 0 rfl) (by omega) (by simp; omega) ?_))
          intro vd' w6 hod6 hgr6 hfr6
          have hb6' : Below w1.heap.size w1 w6 := grow_below1 (HB'.out.trans (((Below.refl wr.heap.size wr).alloc (Nat.le_refl _) _).mono hbs')) (by simp; omega) (HOD.out.alloc _) hgr6
          have HOD6 := Lib.hid (show w6.ownsRow w1.heap.size 3 1 vd' (k + 1) ((weightsUpto funs (k + 1)).map (Value.int .i64)) by
            rw [HTU.out, List.map_append, HMF.out]
            exact hod6)
          have HB6' := Lib.hid hb6'
          clear hod6 hb6' hgr6 hfr6 HOD k4 m0
          go_wp2_with fail
          exact ⟨⟨k + 1, hlt, by simp, HOD6.out, HB1.out.trans (HB6'.out.mono hbs1), HB6'.out⟩, by simp [intOf]; omega⟩
    · obtain rfl : k = funs.length := by omega
      go_wp2_with fail
      go_ret
      have hq := own_ints HOD.out hdl
      rw [HFIN.out trivial] at hq
      exact ⟨⟨_, rfl, hq⟩, HB.out⟩
end Go.Proofs.YtoaajpppbjaomaaGreatDoor
/- The runner's own bound and the reference's are one. -/
namespace Go.Proofs.YtoaajpppbjaomaaGreatDoor
mutual
theorem capL {w : List Int} (hw : ∀ x, x ∈ w → 0 ≤ x) : ∀ (l : List FS) (n : Int), 0 ≤ n → takesL 1000 w l (min n 1000) = min (takesL 1001 w l n) 1000
  | [], n, _ => by simp [takesL]
  | s :: r, n, h => by
    simp only [takesL]
    have h1 := capS hw s n h
    have h2 := takesS_ge (c := 1001) (by omega) hw s n h
    have h3 := capL hw r (min (takesS 1001 w s n) 1001) (by omega)
    rw [← h3]
    congr 1
    omega
theorem capS {w : List Int} (hw : ∀ x, x ∈ w → 0 ≤ x) : ∀ (s : FS) (n : Int), 0 ≤ n → min (takesS 1000 w s (min n 1000)) 1000 = min (takesS 1001 w s n) 1000
  | .mk op _ _ fn _ _ _ arms, n, h => by
    have h0 : 0 ≤ w.getD fn.toNat 0 := by
      rw [List.getD_eq_getElem?_getD]
      cases hx : w[fn.toNat]? with
      | none => simp
      | some x => simpa using hw x (List.mem_of_getElem? hx)
    simp only [takesS]
    refine capAs hw arms _ _ ?_ ?_ ?_
    · split <;> omega
    · split <;> omega
    · split <;> omega
theorem capAs {w : List Int} (hw : ∀ x, x ∈ w → 0 ≤ x) : ∀ (l : List FA) (n m : Int), 0 ≤ n → 0 ≤ m → min n 1000 = min m 1000 → min (takesAs 1000 w l n) 1000 = min (takesAs 1001 w l m) 1000
  | [], n, m, _, _, h => by simpa [takesAs] using h
  | a :: r, n, m, hn, hm, h => by
    simp only [takesAs]
    have h1 := capA hw a
    have h2 := takesA_ge (c := 1000) (by omega) hw a
    have h3 := takesA_ge (c := 1001) (by omega) hw a
    exact capAs hw r _ _ (by omega) (by omega) (by omega)
theorem capA {w : List Int} (hw : ∀ x, x ∈ w → 0 ≤ x) : ∀ (a : FA), takesA 1000 w a = min (takesA 1001 w a) 1000
  | .mk _ body => by
    simp only [takesA]
    have h := capL hw body 0 (Int.le_refl _)
    rw [← h]; rfl
end
theorem steps_takes (funs : List FN) : ∀ k, stepsUpto funs k = takesUpto funs k
  | 0 => rfl
  | k + 1 => by
    have ih := steps_takes funs k
    simp only [stepsUpto, takesUpto]
    rw [ih]
    have h := capL (fun x hx => (takesUpto_small funs k x hx).1) (funs.getD k default).body 0 (Int.le_refl _)
    have h2 : min (0 : Int) 1000 = 0 := by omega
    rw [h2] at h
    rw [h]
    congr 2
    omega
theorem heavy_iff (funs : List FN) : (1000 < heavyV funs) ↔ (heavyF funs = true) := by
  unfold heavyV heavyF
  rw [steps_takes]
  simp only [Bool.or_eq_true, decide_eq_true_eq]
  omega
end Go.Proofs.YtoaajpppbjaomaaGreatDoor
/- The reference's New. -/
namespace Go.Proofs.YtoaajpppbjaomaaGreatDoor
open Go.RowKit
theorem Tryz.infoCellQ : (Tryz.prog.info? 75).map (fun i => (i.zero, i.size, i.bytes)) = some (some (.agg #[.bool false, .int .i64 0]), 2, 16) := by kernel_rfl
theorem zeroQ (n : Nat) : (Builtin.zeroCells #[.bool false, .int .i64 0] n).toList = (List.replicate n (none : Option Int)).flatMap fun o => [Value.bool o.isSome, Value.int .i64 (o.getD 0)] := by
  apply List.ext_getElem?
  intro i
  simp only [Builtin.zeroCells, Array.toList_map, Array.toList_range, List.getElem?_map]
  have hl : ((List.replicate n (none : Option Int)).flatMap fun o => [Value.bool o.isSome, Value.int .i64 (o.getD 0)]).length = n * 2 := by
    induction n with
    | zero => rfl
    | succ n ih => rw [List.replicate_succ, List.flatMap_cons, List.length_append, ih]; simp; omega
  by_cases h : i < n * 2
  · rw [List.getElem?_range (by simpa using h)]
    have hj : i / 2 < n := by omega
    have hg := memP_get (List.replicate n none) (i / 2) none (by simp [hj])
    rcases Nat.mod_two_eq_zero_or_one i with h2 | h2
    · have e : i = i / 2 * 2 := by omega
      conv => rhs; rw [e]
      rw [hg.1]; simp [h2]
    · have e : i = i / 2 * 2 + 1 := by omega
      conv => rhs; rw [e]
      rw [hg.2]; simp [h2]
  · rw [List.getElem?_eq_none (by simp; omega), List.getElem?_eq_none (by rw [hl]; omega)]; rfl
theorem made_memQ (n : Nat) : madeCells #[.bool false, .int .i64 0] (n * 2) = memQ (List.replicate n none) := by
  have h := zeroQ n
  have e : Builtin.zeroCells #[.bool false, .int .i64 0] n = madeCells #[.bool false, .int .i64 0] (n * 2) := by
    simp [Builtin.zeroCells, madeCells]
  rw [← e]
  unfold memQ
  rw [← h]
theorem mk_cellsQ (n : Nat) (hn : n ≤ 1000) (w : World) : (Instr.makeSlice 40 (.int .i64 (n : Int)) (.int .i64 (n : Int))).run Tryz.prog w = .ok (.slice (some ⟨w.heap.size, 0, none⟩) n n) (w.alloc (.cells (memQ (List.replicate n none)) 75)) := by
  obtain ⟨i, hi, hzz⟩ := Option.map_eq_some_iff.1 Tryz.infoCellQ
  simp only [Prod.mk.injEq] at hzz
  obtain ⟨hz, hs, hb⟩ := hzz
  have hr := run_make (P := Tryz.prog) w 40 75 i _ (by kernel_rfl) hi hz .i64 .i64 n n (by omega) (Int.le_refl _) (by rw [hb]; omega) (by omega)
  simp only [Int.toNat_natCast, hs] at hr
  rw [show (Value.agg #[.bool false, .int .i64 0]).cells = #[.bool false, .int .i64 0] from rfl, made_memQ] at hr
  exact hr
structure NewQ (W : World) (funs : List FN) (fv : Value) (w : World) (e : Ending) (w' : World) : Prop where
  below : Below w.heap.size w w'
  field : rightF funs = false → e = .returned (.tuple #[.pointer none, .int .i64 10])
  bound : rightF funs = true → 1000 < heavyV funs → e = .returned (.tuple #[.pointer none, .int .i64 9])
  yes : rightF funs = true → ¬ 1000 < heavyV funs → ∃ R M, e = .returned (.tuple #[.pointer (some ⟨R, 0, none⟩), .int .i64 0]) ∧ w.heap.size ≤ R ∧ w.heap.size ≤ M ∧ RMem W w' R M fv (newF funs).mem false 0
theorem heavyV_eq (funs : List FN) : (1000 < heavyV funs) ↔ (1000 < (weightsUpto funs funs.length).getD (funs.length - 1) 0 ∨ 1000 < (takesUpto funs funs.length).getD (funs.length - 1) 0) := by
  rw [heavy_iff]
  simp [heavyF, lastF]
theorem list_last {ls : List Int} {w : World} {v : Value} {n : Nat} (h : Ints w v ls) (hl : ls.length = n) (h0 : 0 < n) : ∃ b o c, v = .slice (some ⟨b, o, none⟩) n c ∧ b < w.heap.size ∧ w.cell? ⟨b, o + (n - 1), none⟩ = some (.int .i64 (ls.getD (n - 1) 0)) := by
  subst hl
  obtain ⟨b, o, c, e1, e2, e3⟩ := int_cell h (j := ls.length - 1) (by omega)
  refine ⟨b, o, c, e1, e2, e3.trans ?_⟩
  rw [List.getD_eq_getElem?_getD, List.getElem?_eq_getElem (by omega)]; rfl
set_option maxRecDepth 100000 in
set_option maxHeartbeats 2000000 in
theorem newq_any {W : World} {funs : List FN} {nf : Nat} {fv : Value} (w : World) (hW : Below W.heap.size W w) (hrep : RepV (RepF W nf) 6 W fv funs) :
    Calls Tryz.prog 9 #[.agg #[fv]] w (NewQ W funs fv w) := by
  obtain ⟨A, c, rfl, hc1, hc2, hll⟩ := hrep.sl
  have HREP := Lib.hid hrep
  have HW := Lib.hid hW
  have hW0 := hW.size
  clear hrep hW
  go_enter Tryz.func9, Tryz.ntmps9
  go_wp2_with fail
  have hb1 : Below w.heap.size w (w.alloc (Obj.cells #[.slice A funs.length c] 24)) := (Below.refl _ _).alloc (Nat.le_refl _) _
  have hN1 : (w.alloc (Obj.cells #[.slice A funs.length c] 24)).heap[w.heap.size]? = some (Obj.cells #[.slice A funs.length c] 24 (0, 0)) := heap_alloc_at _ _
  refine (right_any _ (HW.out.trans (hb1.mono hW0)) HREP.out).mono ?_
  rintro e w2 ⟨rfl, hb2⟩
  have HB2 := Lib.hid (hb1.trans (hb2.mono (by simp)))
  have HN2 := Lib.hid ((hb2.block _ (by simp)).trans hN1)
  have hbs2 := HB2.out.size
  clear hb1 hN1 hb2
  have n0 := cellB' HN2.out 0 rfl
  have hnl := lt_of_block HN2.out
  cases hr : rightF funs with
  | false =>
    go_wp2_with fail
    go_ret2
    exact ⟨HB2.out, fun _ => rfl, fun h => (by rw [hr] at h; cases h), fun h => (by rw [hr] at h; cases h)⟩
  | true =>
    have h0 := rightF_pos hr
    have HR := Lib.hid (rightP_of hr)
    have HRT := Lib.hid hr
    have HVE := Lib.hid (heavyV_eq funs)
    have e4 : (funs.length : Int) - 1 = ((funs.length - 1 : Nat) : Int) := by omega
    clear hr
    go_wp2_with fail
    refine (weighsf_any _ (HW.out.trans (HB2.out.mono hW0)) HREP.out HRT.out).mono ?_
    rintro e w3 ⟨⟨v3, rfl, hv3⟩, hb3⟩
    have HB3 := Lib.hid (HB2.out.trans (hb3.mono hbs2))
    have HN3 := Lib.hid ((hb3.block _ hnl).trans HN2.out)
    have hbs3 := HB3.out.size
    obtain ⟨b3, o3, c3, rfl, hbl3, hx3⟩ := list_last hv3 (weightsUpto_len funs _) h0
    generalize (weightsUpto funs funs.length).getD (funs.length - 1) 0 = x3 at hx3 HVE
    clear hb3 hv3 n0 hnl HN2
    have n0 := cellB' HN3.out 0 rfl
    have hnl := lt_of_block HN3.out
    by_cases hh3 : 1000 < x3
    · go_wp2_with fail
      go_ret2
      exact ⟨HB3.out, fun h => (by rw [HRT.out] at h; cases h), fun _ _ => rfl, fun _ h => absurd (HVE.out.2 (.inl hh3)) h⟩
    · go_wp2_with fail
      refine (takesf_any _ (HW.out.trans (HB3.out.mono hW0)) HREP.out HRT.out).mono ?_
      rintro e w4 ⟨⟨v4, rfl, hv4⟩, hb4⟩
      have HB4 := Lib.hid (HB3.out.trans (hb4.mono hbs3))
      have HN4 := Lib.hid ((hb4.block _ hnl).trans HN3.out)
      have hbs4 := HB4.out.size
      obtain ⟨b4, o4, c4, rfl, hbl4, hx4⟩ := list_last hv4 (takesUpto_len funs _) h0
      generalize (takesUpto funs funs.length).getD (funs.length - 1) 0 = x4 at hx4 HVE
      clear hb4 hv4 n0 hnl HN3 hx3 hbl3 hbs3
      have n0 := cellB' HN4.out 0 rfl
      have hnl := lt_of_block HN4.out
      by_cases hh4 : 1000 < x4
      · go_wp2_with fail
        go_ret2
        exact ⟨HB4.out, fun h => (by rw [HRT.out] at h; cases h), fun _ _ => rfl, fun _ h => absurd (HVE.out.2 (.inr hh4)) h⟩
      · have hlast : lastF funs < funs.length := by unfold lastF; omega
        generalize hf : funs.getD (lastF funs) default = f
        have hcl := HR.out.cells _ hlast
        rw [hf] at hcl
        obtain ⟨cl, hcl'⟩ := Int.eq_ofNat_of_zero_le hcl.1
        obtain ⟨b, o, c', Ap, cp, Ar, cr, Af, cf, Aq, cq, Ab, cb, hsl, -, hbW, -, -, k2, -, -, -, -⟩ := fn_cells HREP.out (HW.out.trans (HB4.out.mono hW0)) hlast hf
        rw [show lastF funs = funs.length - 1 from rfl, hcl'] at k2
        injection hsl with e1 e2 e3
        subst e1
        have hmk := mk_cellsQ cl (by omega)
        have hbl : b < w4.heap.size := by omega
        have HF := Lib.hid hf
        clear e2 e3 hf
        go_wp2_with fail
        go_region
        obtain ⟨w5, hw5⟩ : ∃ w5, w5 = ((w4.alloc (Obj.cells (memQ (List.replicate cl none)) 75)).alloc (Obj.cells #[Value.slice (some ⟨b, o, none⟩) funs.length c, Value.slice (some ⟨w4.heap.size, 0, none⟩) cl cl, Value.bool false, Value.int IntKind.i64 0] 42)).drew := ⟨_, rfl⟩
        rw [← hw5]
        have s1 : (w4.alloc (Obj.cells (memQ (List.replicate cl none)) 75)).heap.size = w4.heap.size + 1 := by simp
        have hb5 : Below w4.heap.size w4 w5 := by rw [hw5]; exact (((Below.refl _ _).alloc (Nat.le_refl _) _).alloc (by rw [s1]; omega) _).drew
        have hM5 : w5.heap[w4.heap.size]? = some (Obj.cells (memQ (List.replicate cl none)) 75 (0, 0)) := by
          rw [hw5]; show ((w4.alloc _).alloc _).heap[w4.heap.size]? = _
          rw [heap_alloc_lt (by rw [s1]; omega)]; exact heap_alloc_at _ _
        have hR5 : w5.heap[w4.heap.size + 1]? = some (Obj.cells #[Value.slice (some ⟨b, o, none⟩) funs.length c, Value.slice (some ⟨w4.heap.size, 0, none⟩) cl cl, Value.bool false, Value.int IntKind.i64 0] 42 (0, 0)) := by
          rw [hw5]; show ((w4.alloc _).alloc _).heap[w4.heap.size + 1]? = _
          rw [← s1]; exact heap_alloc_at _ _
        have hst : RMem W w5 (w4.heap.size + 1) w4.heap.size (Value.slice (some ⟨b, o, none⟩) funs.length c) (List.replicate cl none) false 0 :=
          ⟨HW.out.trans ((HB4.out.trans (hb5.mono hbs4)).mono hW0), by rw [List.length_replicate]; exact hR5, hM5, by omega, by omega, by omega, by rw [List.length_replicate]; omega⟩
        have HST := Lib.hid hst
        have HB5 := Lib.hid (HB4.out.trans (hb5.mono hbs4))
        have HCL := Lib.hid hcl'
        clear hw5 hb5 hM5 hR5 hst n0 k2 hmk hcl' hcl
        generalize hM : w4.heap.size = M at HST ⊢
        go_wp2_with fail
        refine (anewq_any HREP.out HR.out funs.length (funs.length - 1) 0 _ _ (by omega) (by omega) (by rw [show funs.length - 1 = lastF funs from rfl, HF.out, HCL.out, List.length_replicate]; simp) HST.out).mono ?_
        rintro e5 w6 ⟨rfl, hst6, hk6⟩
        have hrep : newF funs = ⟨anewF funs funs.length (funs.length - 1) 0 (List.replicate cl none), false, 0⟩ := by
          unfold newF
          rw [HF.out, HCL.out]; rfl
        have HST6 := Lib.hid hst6
        have HK6 := Lib.hid hk6
        have HNF := Lib.hid hrep
        clear hst6 hk6 hrep
        go_wp2_with fail
        go_ret2
        refine ⟨?_, fun h => (by rw [HRT.out] at h; cases h), fun _ h => absurd (HVE.out.1 h) (by omega), fun _ _ => ⟨M + 1, M, rfl, by omega, by omega, ?_⟩⟩
        · exact HK6.out.below HB5.out HB5.out.size (fun x hx => by
            simp only [List.mem_cons, List.mem_nil_iff, or_false] at hx
            omega)
        · rw [HNF.out]; exact HST6.out
end Go.Proofs.YtoaajpppbjaomaaGreatDoor
/- A flat program's reading, with its names counted. -/
namespace Go.Proofs.YtoaajpppbjaomaaGreatDoor
open Go.RowKit
theorem wL_sum : ∀ l : List FS, wL l = (l.map wS).sum
  | [] => rfl
  | s :: r => by simp [wL, wL_sum r]
theorem wAs_sum : ∀ l : List FA, wAs l = (l.map wA).sum
  | [] => rfl
  | s :: r => by simp [wAs, wAs_sum r]
theorem sum_ones {α : Type} : ∀ l : List α, (l.map fun _ => 1).sum = l.length
  | [] => rfl
  | s :: r => by rw [List.map_cons, List.sum_cons, sum_ones r, List.length_cons]; omega
theorem sum_mem {α : Type} (μ : α → Nat) {a : α} : ∀ {l : List α}, a ∈ l → μ a ≤ (l.map μ).sum
  | [], h => by cases h
  | x :: r, h => by
    simp only [List.map_cons, List.sum_cons]
    rcases List.mem_cons.1 h with rfl | h
    · omega
    · have := sum_mem μ h; omega
section
variable {H : Type} {enc : TypeId × Value → H} {W : World} {base : Nat} {spare : Nat → Bool} {held : Bool}
theorem sum_bulk {α : Type} (μ : α → Nat) : ∀ (l : List α) (ds : List (DataW H)), l.length = ds.length → (∀ (i : Nat) a d, l[i]? = some a → ds[i]? = some d → μ a ≤ Rows.uptoBulk d) → (l.map μ).sum ≤ Rows.uptoBulkAll ds
  | [], [], _, _ => by simp [Rows.uptoBulkAll]
  | [], _ :: _, h, _ => by simp at h
  | _ :: _, [], h, _ => by simp at h
  | a :: l, d :: ds, h, hh => by
    have h1 := hh 0 a d rfl rfl
    have h2 := sum_bulk μ l ds (by simpa using h) (fun i a d ha hd => hh (i + 1) a d ha hd)
    simp only [List.map_cons, List.sum_cons, Rows.uptoBulkAll]
    omega
theorem bulk_two : ∀ (ds : List (DataW H)) (i j : Nat), i < j → ∀ a b, ds[i]? = some a → ds[j]? = some b → Rows.uptoBulk a + Rows.uptoBulk b ≤ Rows.uptoBulkAll ds
  | [], i, j, _, a, b, h, _ => by simp at h
  | d :: ds, 0, j + 1, _, a, b, h1, h2 => by
    have := bulk_mem (List.mem_of_getElem? (l := ds) (by simpa using h2))
    simp at h1
    subst h1
    simp only [Rows.uptoBulkAll]; omega
  | d :: ds, i + 1, j + 1, h, a, b, h1, h2 => by
    have := bulk_two ds i j (by omega) a b (by simpa using h1) (by simpa using h2)
    simp only [Rows.uptoBulkAll]; omega
theorem read_sliceM {α : Type} (μ : α → Nat) {R : α → List Value → Prop} {t e : TypeId} {sz n : Nat} {cs : List Value} {x : DataW H × List MemPlace} (ht : Tryz.prog.underlying t = some (.slice e)) (hc : Tryz.prog.cellsOf e = sz) (hsz : 0 < sz)
    (h : Reads enc W base spare held t cs x) (hb : Rows.uptoBulk x.1 ≤ n + 1) (hn : n ≤ 1048576) (hel : ∀ cs' y, Reads enc W base spare held e cs' y → Rows.uptoBulk y.1 ≤ n → ∃ a, R a cs' ∧ μ a ≤ Rows.uptoBulk y.1) : ∃ v xs, cs = [v] ∧ RepV R sz W v xs ∧ (xs.map μ).sum + 1 ≤ Rows.uptoBulk x.1 := by
  obtain ⟨fuel, h⟩ := h
  rcases DataW.trod_slice ht h with ⟨rfl, rfl⟩ | ⟨a, len, cap, elems, rest, m, -, rfl, rfl, hbl, hlc, hcm, hlen, hget, -, -⟩
  · exact ⟨_, [], rfl, ⟨by simp, none, 0, rfl, by simp, by omega, fun h => by simp at h⟩, by simp [Rows.uptoBulk]⟩
  · simp only [Rows.uptoBulk] at hb
    have hl := bulk_len (elems.map (·.1))
    simp only [List.length_map] at hl
    have hex : ∀ i, i < len → ∃ p : α × List Value, (p.2.length = sz ∧ R p.1 p.2 ∧ ∀ k, k < sz → W.cell? ((a.add (i * sz)).add k) = p.2[k]?) ∧ (∀ d, (elems.map (·.1))[i]? = some d → μ p.1 ≤ Rows.uptoBulk d) := by
      intro i hi
      have hg := hget i hi
      rw [List.getElem?_eq_getElem (by omega)] at hg
      obtain ⟨cs', h1, h2⟩ := Option.bind_eq_some_iff.1 hg
      obtain ⟨_, hl', hcell⟩ := World.cells?_some h1
      have hmem : (elems[i]'(by omega)).1 ∈ elems.map (·.1) := List.mem_map.2 ⟨_, List.getElem_mem _, rfl⟩
      have hbm := bulk_mem hmem
      obtain ⟨x', hx', hμ⟩ := hel cs' _ ⟨m, h2⟩ (by omega)
      rw [hc] at hl' hcell
      exact ⟨(x', cs'), ⟨hl', hx', hcell⟩, fun d hd => by
        rw [List.getElem?_map, List.getElem?_eq_getElem (by omega)] at hd
        simp only [Option.map_some, Option.some.injEq] at hd
        subst hd; exact hμ⟩
    obtain ⟨l, hll, hlpm⟩ := list_ex len hex
    have hlp := fun i p h => (hlpm i p h).1
    have hsum := sum_bulk μ (l.map (·.1)) (elems.map (·.1)) (by simp; omega) (fun i a d ha hd => by
      rw [List.getElem?_map] at ha
      obtain ⟨p, hp, rfl⟩ := Option.map_eq_some_iff.1 ha
      exact (hlpm i p hp).2 d hd)
    obtain ⟨b, o, sp⟩ := a
    refine ⟨_, l.map (·.1), rfl, ⟨by simp; omega, _, cap, by simp [hll]; rfl, by simp [hll]; exact hlc, by unfold maxLen at hcm; omega, fun h0 => ?_⟩, by simp only [Rows.uptoBulk]; omega⟩
    simp [hll] at h0
    have hsp : sp = none ∧ b < W.heap.size := by
      have hl0 : 0 < l.length := by omega
      obtain ⟨q1, q2, q3⟩ := hlp 0 _ (List.getElem?_eq_getElem hl0)
      have h3 := q3 0 hsz
      rw [List.getElem?_eq_getElem (by omega)] at h3
      have hs := World.cell?_spot h3
      have hs2 := World.block_lt_of_cell? W _ h3
      simp [Addr.add] at hs hs2
      exact ⟨hs, hs2⟩
    obtain ⟨rfl, hbW⟩ := hsp
    refine ⟨b, o, rfl, hbW, fun j x hj => ?_⟩
    rw [List.getElem?_map] at hj
    obtain ⟨p, hp, rfl⟩ := Option.map_eq_some_iff.1 hj
    obtain ⟨q1, q2, q3⟩ := hlp j p hp
    refine ⟨p.2, q1, q2, fun i v hv => ?_⟩
    have hi : i < sz := by rw [← q1]; exact (List.getElem?_eq_some_iff.1 hv).1
    have := (q3 i hi).trans hv
    rw [addr_add2] at this
    rw [← this, Nat.add_assoc]
    generalize j * sz + i = k
    rcases Nat.eq_zero_or_pos k with rfl | hk
    · simp [Addr.add]
    · have hk0 : k ≠ 0 := by omega
      simp [Addr.add, hk0]
theorem read_fieldM {t : TypeId} {fs : Array Field} {cs : List Value} {x : DataW H × List MemPlace} {n : Nat} (ht : Tryz.prog.underlying t = some (.struct fs)) (h : Reads enc W base spare held t cs x) (hb : Rows.uptoBulk x.1 ≤ n + 1) :
    cs.length = Tryz.prog.cellsOf t ∧ ∃ ys : List (DataW H), Rows.uptoBulkAll ys + 1 = Rows.uptoBulk x.1 ∧ ∀ (i : Nat) (t' o sz : Nat), (fs[i]?).map (fun f => (f.type, f.offset)) = some (t', o) → Tryz.prog.cellsOf t' = sz → ∃ y, ys[i]? = some y.1 ∧ Reads enc W base spare held t' ((cs.drop o).take sz) y ∧ Rows.uptoBulk y.1 ≤ n := by
  obtain ⟨fuel, h⟩ := h
  obtain ⟨xs, m, -, rfl, hl, hxl, hf⟩ := DataW.trod_struct ht h
  refine ⟨hl, xs.map (·.1), by simp only [Rows.uptoBulk], fun i t' o sz hi' hsz => ?_⟩
  obtain ⟨f, hi, hfe⟩ := Option.map_eq_some_iff.1 hi'
  simp only [Prod.mk.injEq] at hfe
  obtain ⟨rfl, rfl⟩ := hfe
  subst hsz
  have hil : i < xs.length := by rw [hxl]; exact (Array.getElem?_eq_some_iff.1 hi).1
  have hg := hf i f hi
  rw [List.getElem?_eq_getElem hil] at hg
  refine ⟨xs[i], by rw [List.getElem?_map, List.getElem?_eq_getElem hil]; rfl, ⟨m, hg⟩, ?_⟩
  simp only [Rows.uptoBulk] at hb
  have hmem : (xs[i]).1 ∈ xs.map (·.1) := List.mem_map.2 ⟨_, List.getElem_mem _, rfl⟩
  have := bulk_mem hmem
  omega
theorem read_strsM {n : Nat} {cs : List Value} {x : DataW H × List MemPlace} (h : Reads enc W base spare held 45 cs x) (hb : Rows.uptoBulk x.1 ≤ n) (hn : n ≤ 1048576) : ∃ v xs, cs = [v] ∧ RepV RStr 1 W v xs ∧ xs.length + 1 ≤ Rows.uptoBulk x.1 := by
  obtain ⟨v, xs, h1, h2, h3⟩ :=
    read_sliceM (fun _ => 1) (R := RStr) (n := n) Tryz.underlying45 Tryz.cStr (by omega) h (by omega) hn (fun cs' y hy hyb => by
      obtain ⟨s, rfl, hs⟩ := read_string Tryz.underlying9 hy (by omega)
      exact ⟨s, ⟨rfl, hs⟩, bulk_pos _⟩)
  exact ⟨v, xs, h1, h2, by rw [← sum_ones xs]; exact h3⟩
theorem read_SM : ∀ (n : Nat), n ≤ 1048576 → ∀ {cs : List Value} {x : DataW H × List MemPlace}, Reads enc W base spare held 88 cs x → Rows.uptoBulk x.1 ≤ n → ∃ s, RepS W n s cs ∧ wS s ≤ Rows.uptoBulk x.1
  | 0, _, cs, x, h, hb => by have := bulk_pos x.1; omega
  | n + 1, hn, cs, x, h, hb => by
    obtain ⟨hl, ys, hys, hf⟩ := read_fieldM Tryz.underlying88 h hb
    obtain ⟨c0, c1, c2, c3, c4, c5, c6, c7, c8, c9, c10, c11, rfl⟩ := len12 (hl.trans Tryz.cS)
    obtain ⟨y0, g0, r0, b0⟩ := hf 0 3 0 _ rfl Tryz.cInt
    obtain ⟨y1, g1, r1, b1⟩ := hf 1 9 1 _ rfl Tryz.cStr
    obtain ⟨y2, g2, r2, b2⟩ := hf 2 3 2 _ rfl Tryz.cInt
    obtain ⟨y3, g3, r3, b3⟩ := hf 3 3 3 _ rfl Tryz.cInt
    obtain ⟨y4, g4, r4, b4⟩ := hf 4 45 4 _ rfl Tryz.cSs
    obtain ⟨y5, g5, r5, b5⟩ := hf 5 85 5 _ rfl Tryz.cX
    obtain ⟨y6, g6, r6, b6⟩ := hf 6 83 10 _ rfl Tryz.cSx
    obtain ⟨y7, g7, r7, b7⟩ := hf 7 86 11 _ rfl Tryz.cSa
    simp only [List.drop_succ_cons, List.drop_zero, List.take_succ_cons, List.take_zero] at r0 r1 r2 r3 r4 r5 r6 r7
    obtain ⟨k0, e0, i0⟩ := read_int Tryz.underlying3 r0
    obtain ⟨s1, e1, i1⟩ := read_string Tryz.underlying9 r1 (by omega)
    obtain ⟨k2, e2, i2⟩ := read_int Tryz.underlying3 r2
    obtain ⟨k3, e3, i3⟩ := read_int Tryz.underlying3 r3
    obtain ⟨v4, x4, e4, i4, μ4⟩ := read_strsM r4 b4 (by omega)
    obtain ⟨x5, i5⟩ := read_X n (by omega) r5 b5
    obtain ⟨v6, x6, e6, i6⟩ := read_slice (R := RepX W n) (n := n) Tryz.underlying83 Tryz.cX (by omega) r6 (by omega) (by omega) (fun cs' y hy hyb => read_X n (by omega) hy hyb)
    obtain ⟨v7, x7, e7, i7, μ7⟩ := read_sliceM wA (R := RepA (RepS W n) W) (n := n) Tryz.underlying86 Tryz.cA (by omega) r7 (by omega) (by omega) (fun cs' y hy hyb => by
      obtain ⟨hl', zs, hzs, hf'⟩ := read_fieldM (n := n) Tryz.underlying90 hy (by omega)
      obtain ⟨d0, d1, rfl⟩ := len2 (hl'.trans Tryz.cA)
      obtain ⟨z0, p0, q0, g0⟩ := hf' 0 2 0 _ rfl Tryz.cI64
      obtain ⟨z1, p1, q1, g1⟩ := hf' 1 48 1 _ rfl Tryz.cSst
      simp only [List.drop_succ_cons, List.drop_zero, List.take_succ_cons, List.take_zero] at q0 q1
      obtain ⟨m0, f0, j0⟩ := read_int Tryz.underlying2 q0
      obtain ⟨u1, l1, f1, j1, μ1⟩ := read_sliceM wS (R := RepS W n) (n := n) Tryz.underlying48 Tryz.cS (by omega) q1 (by omega) (by omega) (fun cs' y hy hyb => read_SM n (by omega) hy hyb)
      simp only [List.cons.injEq, and_true] at f0 f1
      subst f0 f1
      exact ⟨.mk m0 l1, ⟨_, rfl, j0, j1⟩, by
        have := bulk_mem (List.mem_of_getElem? p1)
        rw [wA_body, show (FA.mk m0 l1).body = l1 from rfl, wL_sum]; omega⟩)
    simp only [List.cons.injEq, and_true] at e0 e1 e2 e3 e4 e6 e7
    subst e0 e1 e2 e3 e4 e6 e7
    exact ⟨.mk k0 s1 k2 k3 x4 x5 x6 x7, ⟨_, _, _, _, rfl, i0, i2, i3, i1, i4, i5, i6, i7⟩, by
      have := bulk_two ys 4 7 (by omega) _ _ g4 g7
      simp only [wS]; rw [wAs_sum]; omega⟩
theorem read_FM {n : Nat} (hn : n ≤ 1048576) {cs : List Value} {x : DataW H × List MemPlace} (h : Reads enc W base spare held 50 cs x) (hb : Rows.uptoBulk x.1 ≤ n) : ∃ f, RepF W n f cs ∧ f.params.length + wL f.body ≤ Rows.uptoBulk x.1 := by
  obtain ⟨hl, ys, hys, hf⟩ := read_fieldM (n := n) Tryz.underlying50 h (by omega)
  obtain ⟨c0, c1, c2, c3, c4, c5, rfl⟩ := len6 (hl.trans Tryz.cF)
  obtain ⟨y0, g0, r0, b0⟩ := hf 0 45 0 _ rfl Tryz.cSs
  obtain ⟨y1, g1, r1, b1⟩ := hf 1 45 1 _ rfl Tryz.cSs
  obtain ⟨y2, g2, r2, b2⟩ := hf 2 3 2 _ rfl Tryz.cInt
  obtain ⟨y3, g3, r3, b3⟩ := hf 3 46 3 _ rfl Tryz.cSi
  obtain ⟨y4, g4, r4, b4⟩ := hf 4 47 4 _ rfl Tryz.cSp
  obtain ⟨y5, g5, r5, b5⟩ := hf 5 48 5 _ rfl Tryz.cSst
  simp only [List.drop_succ_cons, List.drop_zero, List.take_succ_cons, List.take_zero] at r0 r1 r2 r3 r4 r5
  obtain ⟨v0, x0, e0, i0, μ0⟩ := read_strsM r0 b0 (by omega)
  obtain ⟨v1, x1, e1, i1⟩ := read_strs r1 b1 (by omega)
  obtain ⟨k2, e2, i2⟩ := read_int Tryz.underlying3 r2
  obtain ⟨v3, x3, e3, i3⟩ := read_ints r3 b3 (by omega)
  obtain ⟨v4, x4, e4, i4⟩ := read_slice (R := RPart) (n := n) Tryz.underlying47 Tryz.cP (by omega) r4 (by omega) (by omega) (fun cs' y hy hyb => by
    obtain ⟨hl', hf'⟩ := read_field (n := n) Tryz.underlying56 hy (by omega)
    obtain ⟨d0, d1, rfl⟩ := len2 (hl'.trans Tryz.cP)
    obtain ⟨z0, q0, g0⟩ := hf' 0 3 0 _ rfl Tryz.cInt
    obtain ⟨z1, q1, g1⟩ := hf' 1 3 1 _ rfl Tryz.cInt
    simp only [List.drop_succ_cons, List.drop_zero, List.take_succ_cons, List.take_zero] at q0 q1
    obtain ⟨m0, f0, j0⟩ := read_int Tryz.underlying3 q0
    obtain ⟨m1, f1, j1⟩ := read_int Tryz.underlying3 q1
    simp only [List.cons.injEq, and_true] at f0 f1
    subst f0 f1
    exact ⟨⟨m0, m1⟩, rfl, j0, j1⟩)
  obtain ⟨v5, x5, e5, i5, μ5⟩ := read_sliceM wS (R := RepS W n) (n := n) Tryz.underlying48 Tryz.cS (by omega) r5 (by omega) (by omega) (fun cs' y hy hyb => read_SM n (by omega) hy hyb)
  simp only [List.cons.injEq, and_true] at e0 e1 e2 e3 e4 e5
  subst e0 e1 e2 e3 e4 e5
  exact ⟨⟨x0, x1, k2, x3, x4, x5⟩, ⟨_, _, _, _, _, rfl, i2, i0, i1, i3, i4, i5⟩, by
    have := bulk_two ys 0 5 (by omega) _ _ g0 g5
    simp only; rw [wL_sum]; omega⟩
theorem read_flatM {cs : List Value} {x : DataW H × List MemPlace} (h : Reads enc W base spare held 24 cs x) (hb : Rows.uptoBulk x.1 ≤ 1048576) : ∃ fv funs, cs = [fv] ∧ RepV (RepF W 1048576) 6 W fv funs ∧ NameB funs := by
  obtain ⟨hl, hf⟩ := read_field (n := 1048576) Tryz.underlying24 h (by omega)
  obtain ⟨c0, rfl⟩ := len1 (hl.trans Tryz.cFl)
  obtain ⟨y0, r0, b0⟩ := hf 0 22 0 _ rfl Tryz.cSf
  simp only [List.drop_zero, List.take_succ_cons, List.take_zero] at r0
  obtain ⟨v, funs, h1, h2, h3⟩ := read_sliceM (fun f : FN => f.params.length + wL f.body) (R := RepF W 1048576) (n := 1048576) Tryz.underlying22 Tryz.cF (by omega) r0 (by omega) (by omega) (fun cs' y hy hyb => read_FM (by omega) hy hyb)
  refine ⟨v, funs, h1, h2, fun k hk => ?_⟩
  have hm : funs.getD k default ∈ funs := by
    rw [List.getD_eq_getElem?_getD, List.getElem?_eq_getElem hk]; exact List.getElem_mem _
  have := sum_mem (fun f : FN => f.params.length + wL f.body) hm
  omega
end
end Go.Proofs.YtoaajpppbjaomaaGreatDoor
/- Law 21: the walk of RunnerRuns. -/
namespace Go.Proofs.YtoaajpppbjaomaaGreatDoor
open Go.RowKit
def RRRel (W : World) (R M R' M' : Nat) (fv : Value) (funs : List FN) (rows : List (List Int)) (i : Value) (wr : World) : Prop :=
  ∃ (k : Nat) (r : RS), k ≤ rows.length ∧ i = .int .i64 k ∧ r.mem.length = lastCells funs ∧ MemSt W wr R M fv r.mem r.trapped r.count ∧ RMem W wr R' M' fv r.mem r.trapped r.count ∧ (r.trapped = false → ∀ v, some v ∈ r.mem → I64 v)
theorem MemSt.apart {W w w' : World} {R M R' M' : Nat} {fv : Value} {mem : Mem} {tr : Bool} {cnt : Int} (h : MemSt W w R M fv mem tr cnt) (hk : Keep [R', M'] w w') (h1 : W.heap.size ≤ R') (h2 : W.heap.size ≤ M')
    (a1 : R ≠ R') (a2 : R ≠ M') (a3 : M ≠ R') (a4 : M ≠ M') : MemSt W w' R M fv mem tr cnt :=
  { h with
    below := hk.below h.below h.below.size (fun x hx => by simp at hx; omega)
    hR := (hk.block R (lt_of_block h.hR) (by simp; omega)).trans h.hR
    hM := (hk.block M (lt_of_block h.hM) (by simp; omega)).trans h.hM }
theorem RMem.apart {W w w' : World} {R M R' M' : Nat} {fv : Value} {mem : Mem} {tr : Bool} {cnt : Int} (h : RMem W w R M fv mem tr cnt) (hk : Keep [R', M'] w w') (h1 : W.heap.size ≤ R') (h2 : W.heap.size ≤ M')
    (a1 : R ≠ R') (a2 : R ≠ M') (a3 : M ≠ R') (a4 : M ≠ M') : RMem W w' R M fv mem tr cnt :=
  { h with
    below := hk.below h.below h.below.size (fun x hx => by simp at hx; omega)
    hR := (hk.block R (lt_of_block h.hR) (by simp; omega)).trans h.hR
    hM := (hk.block M (lt_of_block h.hM) (by simp; omega)).trans h.hM }
theorem RowAt.keep {W w w' : World} {R M : Nat} {sv : Value} {rows : List (List Int)} {j b o : Nat} {vi : Value} {l : List Int} (h : RowAt W w sv rows j b o vi l) (hk : Keep [R, M] w w') (hW : W.heap.size ≤ w.heap.size) (h1 : W.heap.size ≤ R) (h2 : W.heap.size ≤ M) : RowAt W w' sv rows j b o vi l :=
  { h with
    cell := ((hk.below (Below.refl W.heap.size w) hW (fun x hx => by simp at hx; omega)).cell (p := ⟨b, o + j, none⟩) h.bl).trans h.cell
    ints := h.ints.kept2 hk (fun x hx => h.far x (by simp at hx; omega)) }
set_option maxRecDepth 100000 in
set_option maxHeartbeats 4000000 in
theorem runs_any {W : World} {funs : List FN} {nf : Nat} {fv sv : Value} {rows : List (List Int)} (hE : ErrV W) (hrep : RepV (RepF W nf) 6 W fv funs) (hNB : NameB funs) (hsc : RepV (RRow W) 1 W sv rows) :
    Calls Tryz.prog 3 #[.agg #[fv], sv] W (RetB (.bool true) W) := by
  obtain ⟨A, c, rfl, hc1, hc2, hfl⟩ := hrep.sl
  obtain ⟨Av, cv, rfl, hv1, hv2, hvl⟩ := hsc.sl
  have HREP := Lib.hid hrep
  have HSC := Lib.hid hsc
  have HE := Lib.hid hE
  have HNB := Lib.hid hNB
  clear hrep hsc hE hNB
  go_enter Tryz.func3, Tryz.ntmps3
  go_wp2_with fail
  have hb0 : Below W.heap.size W (W.alloc (Obj.cells #[.slice A funs.length c] 24)) := (Below.refl _ _).alloc (Nat.le_refl _) _
  have hN0 : (W.alloc (Obj.cells #[.slice A funs.length c] 24)).heap[W.heap.size]? = some (Obj.cells #[.slice A funs.length c] 24 (0, 0)) := heap_alloc_at _ _
  refine (lives_any _ (by obtain ⟨tp, p, h⟩ := HE.out; exact ⟨tp, p, var?_alloc h⟩)).mono ?_
  rintro e w1 ⟨rfl, hb1⟩
  have HB1 := Lib.hid (hb0.trans (hb1.mono (by simp)))
  have HN1 := Lib.hid ((hb1.block _ (by simp)).trans hN0)
  have m0 := cellB' HN1.out 0 rfl
  have hl1 := lt_of_block HN1.out
  clear hb0 hN0 hb1
  go_wp2_with fail
  refine (great_any (W := W) w1 HB1.out HREP.out).mono ?_
  rintro e w2 ⟨b, rfl, hb2⟩
  have HB2 := Lib.hid (HB1.out.trans (hb2.mono HB1.out.size))
  have HN2 := Lib.hid ((hb2.block _ hl1).trans HN1.out)
  have m1 := cellB' HN2.out 0 rfl
  have hl2 := lt_of_block HN2.out
  clear hb2 m0
  cases b with
  | true =>
    go_wp2_with fail
    go_ret
    exact ⟨rfl, HB2.out⟩
  | false =>
  go_wp2_with fail
  refine (new_any w2 HB2.out HREP.out).mono ?_
  intro e w3 hP
  have HB3 := Lib.hid (HB2.out.trans (hP.below.mono HB2.out.size))
  have HN3 := Lib.hid ((hP.below.block _ hl2).trans HN2.out)
  have m2 := cellB' HN3.out 0 rfl
  have hl3 := lt_of_block HN3.out
  cases hr : rightF funs with
  | false =>
    obtain rfl := hP.field hr
    clear hP
    go_wp2_with fail
    refine (newq_any (W := W) w3 HB3.out HREP.out).mono ?_
    intro e w4 hQ
    have HB4 := Lib.hid (HB3.out.trans (hQ.below.mono HB3.out.size))
    obtain rfl := hQ.field hr
    clear hQ
    go_wp2_with fail
    go_ret
    exact ⟨rfl, HB4.out⟩
  | true =>
  by_cases hv : 1000 < heavyV funs
  · obtain rfl := hP.bound hr hv
    clear hP
    go_wp2_with fail
    refine (newq_any (W := W) w3 HB3.out HREP.out).mono ?_
    intro e w4 hQ
    have HB4 := Lib.hid (HB3.out.trans (hQ.below.mono HB3.out.size))
    obtain rfl := hQ.bound hr hv
    clear hQ
    go_wp2_with fail
    go_ret
    exact ⟨rfl, HB4.out⟩
  obtain ⟨R, M, rfl, hRg, hMg, hst⟩ := hP.yes hr hv
  have HRP := Lib.hid (rightP_of hr)
  have h0 := rightF_pos hr
  have HST3 := Lib.hid hst
  have HRT := Lib.hid hr
  have HV := Lib.hid hv
  have hRl3 := lt_of_block hst.hR
  have hMl3 := lt_of_block hst.hM
  clear hP hst m1 hr hv
  go_wp2_with fail
  refine (newq_any (W := W) w3 HB3.out HREP.out).mono ?_
  intro e w4 hQ
  obtain ⟨R', M', rfl, hRg', hMg', hst'⟩ := hQ.yes HRT.out (by have := HV.out; omega)
  have HST4 := Lib.hid (HST3.out.later hQ.below)
  have HSQ4 := Lib.hid hst'
  clear hQ hst' m2
  go_wp2_with fail
  have hWR := HST4.out.geR
  have hWM := HST4.out.geM
  have hWR' := HSQ4.out.geR
  have hWM' := HSQ4.out.geM
  go_loopw [9] (fun i wr => RRRel W R M R' M' (.slice A funs.length c) funs rows i wr) (fun i _ => rows.length - (intOf i).toNat)
  case atStart => exact ⟨0, newF funs, Nat.zero_le _, rfl, newF_len HRP.out h0, HST4.out, HSQ4.out, fun _ => newF_I64 funs⟩
  case round =>
    obtain ⟨k, r, hk, rfl, hml, hst, hsq, hmI⟩ := hrel
    have HST := Lib.hid hst
    have HSQ := Lib.hid hsq
    have HMI := Lib.hid hmI
    have HML := Lib.hid hml
    have hb : Below W.heap.size W wr := hst.below
    have HB := Lib.hid hb
    have hRl := lt_of_block hst.hR
    have hRl' := lt_of_block hsq.hR
    have hMl' := lt_of_block hsq.hM
    have hMl := lt_of_block hst.hM
    clear hst hsq hmI hml
    by_cases hlt : k < rows.length
    · obtain ⟨b, o, cs, vi, hsl, ha⟩ := row_at HSC.out hb hlt
      injection hsl with e1 e2 e3
      subst e1
      clear e2 e3
      have HA := Lib.hid ha
      have ha0 := ha.cell
      have hal := World.block_lt_of_cell? wr _ ha0
      simp only at hal
      generalize hl : rows[k] = l at ha HA
      obtain ⟨Ai, ci, hvi, -⟩ := ha.ints
      subst hvi
      clear ha hl hb
      have hNe : R ≠ R' ∧ R ≠ M' ∧ M ≠ R' ∧ M ≠ M' := ⟨by omega, by omega, by omega, by omega⟩
      cases Ai with
      | none =>
          have hnil := fun (w : World) => Lib.run_eql_slice_nil (P := Tryz.prog) w _ _ none l.length ci 0 0 Tryz.underlying35
          simp only [Option.isNone_none] at hnil
          go_wp2_with fail
          refine (begin_any HREP.out HRP.out h0 HST.out (by rw [HML.out]; exact Nat.le_refl _)).mono ?_
          rintro e w5 ⟨rfl, hk5, hst5⟩
          have HBN := Lib.hid (show anewF funs funs.length (lastF funs) 0 r.mem = (newF funs).mem from congrArg RS.mem (beginF_new h0 HML.out))
          rw [HBN.out] at hst5
          have HST5 := Lib.hid hst5
          have HSQ5 := Lib.hid (HSQ.out.apart hk5 hWR hWM hNe.1.symm hNe.2.2.1.symm hNe.2.1.symm hNe.2.2.2.symm)
          clear hk5 hst5 ha0
          go_wp2_with fail
          refine (beginq_any HREP.out HRP.out h0 HSQ5.out (by rw [HML.out]; exact Nat.le_refl _)).mono ?_
          rintro e w6 ⟨rfl, hk6, hsq6⟩
          rw [HBN.out] at hsq6
          have HST6 : Hid (MemSt W w6 R M (.slice A funs.length c) (newF funs).mem (newF funs).trapped (newF funs).count) := Lib.hid (HST5.out.apart hk6 hWR' hWM' hNe.1 hNe.2.1 hNe.2.2.1 hNe.2.2.2)
          have HSQ6 : Hid (RMem W w6 R' M' (.slice A funs.length c) (newF funs).mem (newF funs).trapped (newF funs).count) := Lib.hid hsq6
          have HMI6 : Hid ((newF funs).trapped = false → ∀ v, some v ∈ (newF funs).mem → I64 v) := Lib.hid (fun _ => newF_I64 funs)
          have HML6 := Lib.hid (newF_len HRP.out h0)
          generalize newF funs = r' at HST6 HSQ6 HMI6 HML6
          clear hk6 hsq6 HBN
          have hRl6 := lt_of_block HST6.out.hR
          have hRl6' := lt_of_block HSQ6.out.hR
          have dc : (r'.count != r'.count) = false := by simp
          have dd : ((definedF r'.mem : Int) != (definedF r'.mem : Int)) = false := by simp
          have dl : ((r'.mem.length : Int) != (r'.mem.length : Int)) = false := by simp
          go_wp2_with fail
          refine region_qtail_in (C := fun w' => Below w6.heap.size w6 w') 23 (by kernel_rfl) (by kernel_rfl) (Below.refl _ _).drew ?_
          simp only [List.take_succ_cons, List.take_zero, List.drop_succ_cons, List.drop_zero]
          go_big_quiet_step (exact fun _ => rfl)
          refine wpQuiet_step (fun K hK => ?_)
          refine bq_one (.int .i64 r'.count) (by kernel_rfl) (fun w' hw' => ?_) ?_
          · simp [Oper.quietAt, Oper.quietUpon, go_sem]
            refine (count_any (HST6.out.later hw')).mono ?_
            rintro e w7 ⟨rfl, hb7⟩
            exact ⟨rfl, hb7 ▸ hw'⟩
          go_simp
          refine hK _ ?_
          clear hK K
          go_big_quiet_step (exact fun _ => rfl)
          go_big_quiet_step (exact fun _ => rfl)
          go_big_quiet_step (exact fun _ => rfl)
          refine wpQuiet_step (fun K hK => ?_)
          refine bq_one (.int .i64 r'.count) (by kernel_rfl) (fun w' hw' => ?_) ?_
          · have q0 : w'.cell? ⟨R', 3, none⟩ = some (.int .i64 r'.count) := cellB' (HSQ6.out.later hw').hR 3 rfl
            simp [Oper.quietAt, Oper.quietUpon, execOp, go_sem, q0]
          go_simp
          refine hK _ ?_
          clear hK K
          go_big_quiet_step (exact fun _ => rfl)
          go_big_quiet_step (exact fun _ => rfl)
          go_big_quiet_step (exact fun _ => rfl)
          refine wpQuiet_step (fun K hK => ?_)
          refine bq_one (.int .i64 (definedF r'.mem : Nat)) (by kernel_rfl) (fun w' hw' => ?_) ?_
          · simp [Oper.quietAt, Oper.quietUpon, go_sem]
            refine (defined_any (HST6.out.later hw')).mono ?_
            rintro e w7 ⟨rfl, hb7⟩
            exact ⟨rfl, hw'.trans (hb7.mono hw'.size)⟩
          go_simp
          refine hK _ ?_
          clear hK K
          go_big_quiet_step (exact fun _ => rfl)
          refine wpQuiet_step (fun K hK => ?_)
          refine bq_one (.int .i64 (definedF r'.mem : Nat)) (by kernel_rfl) (fun w' hw' => ?_) ?_
          · simp [Oper.quietAt, Oper.quietUpon, go_sem]
            refine (definedq_any (HSQ6.out.later hw')).mono ?_
            rintro e w7 ⟨rfl, hb7⟩
            exact ⟨rfl, hb7 ▸ hw'⟩
          go_simp
          refine hK _ ?_
          clear hK K
          go_big_quiet_step (exact fun _ => rfl)
          go_big_quiet_step (exact fun _ => rfl)
          go_big_quiet_step (exact fun _ => rfl)
          go_big_quiet_step (exact fun _ => rfl)
          refine wpQuiet_step (fun K hK => ?_)
          refine bq_one (.int .i64 (r'.mem.length : Nat)) (by kernel_rfl) (fun w' hw' => ?_) ?_
          · simp [Oper.quietAt, Oper.quietUpon, go_sem]
            refine (cells_any (HST6.out.later hw')).mono ?_
            rintro e w7 ⟨rfl, hb7⟩
            exact ⟨rfl, hb7 ▸ hw'⟩
          go_simp
          refine hK _ ?_
          clear hK K
          go_big_quiet_step (exact fun _ => rfl)
          go_big_quiet_step (exact fun _ => rfl)
          go_big_quiet_step (exact fun _ => rfl)
          refine wpQuiet_step (fun K hK => ?_)
          refine bq_one (.slice (some ⟨M', 0, none⟩) r'.mem.length r'.mem.length) (by kernel_rfl) (fun w' hw' => ?_) ?_
          · have q0 : w'.cell? ⟨R', 1, none⟩ = some (.slice (some ⟨M', 0, none⟩) r'.mem.length r'.mem.length) := cellB' (HSQ6.out.later hw').hR 1 rfl
            simp [Oper.quietAt, Oper.quietUpon, execOp, go_sem, q0]
          go_simp
          refine hK _ ?_
          clear hK K
          go_big_quiet_step (exact fun _ => rfl)
          go_big_quiet_step (exact fun _ => rfl)
          refine wpQuiet_nil ?_
          intro w8 hb8
          have HST8 := Lib.hid (HST6.out.later hb8)
          have HSQ8 := Lib.hid (HSQ6.out.later hb8)
          clear hb8 dc dd dl
          go_wp2_with fail
          exact ⟨⟨k + 1, r', hlt, by simp, HML6.out, HST8.out, HSQ8.out, HMI6.out⟩, by simp [intOf]; omega⟩
      | some ad =>
          have hnil := fun (w : World) => Lib.run_eql_slice_nil (P := Tryz.prog) w _ _ (some ad) l.length ci 0 0 Tryz.underlying35
          simp only [Option.isNone_some] at hnil
          go_wp2_with fail
          refine (row_step HREP.out HRP.out h0 HST.out HMI.out HA.out).mono ?_
          rintro e w5 ⟨⟨lv, rfl, hown⟩, hk5, hst5, hmI5⟩
          have hSQ5 := HSQ.out.apart hk5 hWR hWM hNe.1.symm hNe.2.2.1.symm hNe.2.1.symm hNe.2.2.2.symm
          have HML5 := Lib.hid ((stepF_memlen HRP.out h0 r l).trans HML.out)
          have HA5 := Lib.hid (HA.out.keep hk5 HB.out.size hWR hWM)
          have ha5 := HA5.out.cell
          have hal5 : b < w5.heap.size := Nat.lt_of_lt_of_le hal hk5.size
          have hIL := ints_of_own hown
          obtain ⟨A5, c5, hv5, -⟩ := hIL
          subst hv5
          have HST5 := Lib.hid hst5
          have HSQ5 := Lib.hid hSQ5
          have HMI5 := Lib.hid hmI5
          have HOWN := Lib.hid hown
          have hs5 := hk5.size
          generalize hq : stepF funs r l = q at HOWN HST5 HMI5 HML5
          obtain ⟨r', out, g⟩ := q
          simp only at HOWN HST5 HMI5 HML5
          have HQ := Lib.hid hq
          clear hk5 hst5 hSQ5 hown hmI5 hq ha0
          go_wp2_with fail
          refine (runq_step HREP.out HRP.out HNB.out h0 HSQ5.out HMI.out HA5.out.ints HA5.out.i64 HA5.out.len (fun x hx => HA5.out.far x (by simp at hx; omega))).mono ?_
          rw [HQ.out]
          rintro e w6 ⟨⟨lv6, rfl, hown6⟩, hk6, hsq6, -⟩
          have hBR : ∀ x, x ∈ [R', M'] → x < wr.heap.size := fun x hx => by simp at hx; omega
          have HIA := Lib.hid (ints_of_own (own_keep HOWN.out hk6 hBR))
          have HIB := Lib.hid (ints_of_own hown6)
          have hol := own_max hown6
          have HST6' := Lib.hid (HST5.out.apart hk6 hWR' hWM' hNe.1 hNe.2.1 hNe.2.2.1 hNe.2.2.2)
          have HSQ6' := Lib.hid hsq6
          obtain ⟨A6, c6, hv6, -⟩ := HIB.out
          subst hv6
          have dg : (g != g) = false := by simp
          clear hk6 hsq6 hown6 hBR ha5 hal5 HQ
          go_wp2_with fail
          refine (same_longs HIA.out HIB.out hol).mono ?_
          rintro e w7 ⟨rfl, hb7⟩
          rw [decide_eq_true (rfl : out = out)]
          have HST6 := Lib.hid (HST6'.out.later hb7)
          have HSQ6 := Lib.hid (HSQ6'.out.later hb7)
          have HMI6 := HMI5
          have HML6 := HML5
          clear hb7
          have hRl6 := lt_of_block HST6.out.hR
          have hRl6' := lt_of_block HSQ6.out.hR
          have dc : (r'.count != r'.count) = false := by simp
          have dd : ((definedF r'.mem : Int) != (definedF r'.mem : Int)) = false := by simp
          have dl : ((r'.mem.length : Int) != (r'.mem.length : Int)) = false := by simp
          go_wp2_with fail
          refine region_qtail_in (C := fun w' => Below w7.heap.size w7 w') 23 (by kernel_rfl) (by kernel_rfl) (Below.refl _ _).drew ?_
          simp only [List.take_succ_cons, List.take_zero, List.drop_succ_cons, List.drop_zero]
          go_big_quiet_step (exact fun _ => rfl)
          refine wpQuiet_step (fun K hK => ?_)
          refine bq_one (.int .i64 r'.count) (by kernel_rfl) (fun w' hw' => ?_) ?_
          · simp [Oper.quietAt, Oper.quietUpon, go_sem]
            refine (count_any (HST6.out.later hw')).mono ?_
            rintro e w7 ⟨rfl, hb7⟩
            exact ⟨rfl, hb7 ▸ hw'⟩
          go_simp
          refine hK _ ?_
          clear hK K
          go_big_quiet_step (exact fun _ => rfl)
          go_big_quiet_step (exact fun _ => rfl)
          go_big_quiet_step (exact fun _ => rfl)
          refine wpQuiet_step (fun K hK => ?_)
          refine bq_one (.int .i64 r'.count) (by kernel_rfl) (fun w' hw' => ?_) ?_
          · have q0 : w'.cell? ⟨R', 3, none⟩ = some (.int .i64 r'.count) := cellB' (HSQ6.out.later hw').hR 3 rfl
            simp [Oper.quietAt, Oper.quietUpon, execOp, go_sem, q0]
          go_simp
          refine hK _ ?_
          clear hK K
          go_big_quiet_step (exact fun _ => rfl)
          go_big_quiet_step (exact fun _ => rfl)
          go_big_quiet_step (exact fun _ => rfl)
          refine wpQuiet_step (fun K hK => ?_)
          refine bq_one (.int .i64 (definedF r'.mem : Nat)) (by kernel_rfl) (fun w' hw' => ?_) ?_
          · simp [Oper.quietAt, Oper.quietUpon, go_sem]
            refine (defined_any (HST6.out.later hw')).mono ?_
            rintro e w7 ⟨rfl, hb7⟩
            exact ⟨rfl, hw'.trans (hb7.mono hw'.size)⟩
          go_simp
          refine hK _ ?_
          clear hK K
          go_big_quiet_step (exact fun _ => rfl)
          refine wpQuiet_step (fun K hK => ?_)
          refine bq_one (.int .i64 (definedF r'.mem : Nat)) (by kernel_rfl) (fun w' hw' => ?_) ?_
          · simp [Oper.quietAt, Oper.quietUpon, go_sem]
            refine (definedq_any (HSQ6.out.later hw')).mono ?_
            rintro e w7 ⟨rfl, hb7⟩
            exact ⟨rfl, hb7 ▸ hw'⟩
          go_simp
          refine hK _ ?_
          clear hK K
          go_big_quiet_step (exact fun _ => rfl)
          go_big_quiet_step (exact fun _ => rfl)
          go_big_quiet_step (exact fun _ => rfl)
          go_big_quiet_step (exact fun _ => rfl)
          refine wpQuiet_step (fun K hK => ?_)
          refine bq_one (.int .i64 (r'.mem.length : Nat)) (by kernel_rfl) (fun w' hw' => ?_) ?_
          · simp [Oper.quietAt, Oper.quietUpon, go_sem]
            refine (cells_any (HST6.out.later hw')).mono ?_
            rintro e w7 ⟨rfl, hb7⟩
            exact ⟨rfl, hb7 ▸ hw'⟩
          go_simp
          refine hK _ ?_
          clear hK K
          go_big_quiet_step (exact fun _ => rfl)
          go_big_quiet_step (exact fun _ => rfl)
          go_big_quiet_step (exact fun _ => rfl)
          refine wpQuiet_step (fun K hK => ?_)
          refine bq_one (.slice (some ⟨M', 0, none⟩) r'.mem.length r'.mem.length) (by kernel_rfl) (fun w' hw' => ?_) ?_
          · have q0 : w'.cell? ⟨R', 1, none⟩ = some (.slice (some ⟨M', 0, none⟩) r'.mem.length r'.mem.length) := cellB' (HSQ6.out.later hw').hR 1 rfl
            simp [Oper.quietAt, Oper.quietUpon, execOp, go_sem, q0]
          go_simp
          refine hK _ ?_
          clear hK K
          go_big_quiet_step (exact fun _ => rfl)
          go_big_quiet_step (exact fun _ => rfl)
          refine wpQuiet_nil ?_
          intro w8 hb8
          have HST8 := Lib.hid (HST6.out.later hb8)
          have HSQ8 := Lib.hid (HSQ6.out.later hb8)
          clear hb8 dc dd dl
          go_wp2_with fail
          exact ⟨⟨k + 1, r', hlt, by simp, HML6.out, HST8.out, HSQ8.out, HMI6.out⟩, by simp [intOf]; omega⟩
    · obtain rfl : k = rows.length := by omega
      go_wp2_with fail
      go_ret
      exact ⟨rfl, HB.out⟩
end Go.Proofs.YtoaajpppbjaomaaGreatDoor
