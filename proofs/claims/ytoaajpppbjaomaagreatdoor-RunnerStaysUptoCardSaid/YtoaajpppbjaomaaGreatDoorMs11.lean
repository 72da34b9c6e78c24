/- One claim's texts, merged by program: parts Cd, Bd. -/
import Derived.Test.YtoaajpppbjaomaaGreatDoorMs10
import Derived.Stop.LaidErr
/- The reference's Great: it hands back some Boolean. -/
namespace Go.Proofs.YtoaajpppbjaomaaGreatDoor
open Go.RowKit
def SomeBool (w : World) (e : Ending) (w' : World) : Prop := ∃ b : Bool, e = .returned (.bool b) ∧ Below w.heap.size w w'
def GRel (n : Nat) (w w1 : World) (vd vh i : Value) (wr : World) : Prop :=
  ∃ (k : Nat) (ds hs : List Int), k ≤ n ∧ i = .int .i64 k ∧ ds.length = k ∧ hs.length = k ∧ Big ds ∧ Big hs ∧ wr.ownsRow w1.heap.size 3 1 vd k (ds.map (Value.int .i64)) ∧ wr.ownsRow w1.heap.size 3 1 vh k (hs.map (Value.int .i64)) ∧
    (∀ g, vd.ownBlock = some g → vh.ownBlock ≠ some g) ∧ Below w.heap.size w wr ∧ Below w1.heap.size w1 wr
def GPRel (f : FN) (w2 : World) (n i : Value) (wr : World) : Prop :=
  ∃ (j : Nat) (m : Int), j ≤ f.parts.length ∧ i = .int .i64 j ∧ n = .int .i64 m ∧ 0 ≤ m ∧ m ≤ 1073741824 ∧ wr = w2
theorem big_snoc {l : List Int} {x : Int} (h : Big l) (hx : 0 ≤ x ∧ x ≤ 2147483648) : Big (l ++ [x]) := fun y hy => by
  rcases List.mem_append.1 hy with hy | hy
  · exact h y hy
  · simp at hy; subst hy; exact hx
theorem own_below2 {w w' : World} {B : Nat} {v : Value} {k : Nat} {xs : List Value} (h : w.ownsRow B 3 1 v k xs) (hb : Below w.heap.size w w') : w'.ownsRow B 3 1 v k xs := by
  refine ⟨h.1, ?_⟩
  rcases h.2 with h2 | ⟨g, cap, cur, hv, hg, hh, r⟩
  · exact .inl h2
  · exact .inr ⟨g, cap, cur, hv, hg, by rw [hb.block g (lt_of_block hh)]; exact hh, r⟩
theorem kept_dis {w w' : World} {B : Nat} {vd vh : Value} {k : Nat} {xs : List Value} (h : w.ownsRow B 3 1 vd k xs) (hd : ∀ g, vd.ownBlock = some g → vh.ownBlock ≠ some g) (hg : w.grownBy w' vh.ownBlock) : w'.ownsRow B 3 1 vd k xs := by
  refine h.kept hg ?_
  cases hv : vd.ownBlock with
  | none => exact .inl rfl
  | some g => exact .inr (fun e => hd g hv e.symm)
theorem grow_below1 {B : Nat} {w0 w w' : World} {v : Value} {k : Nat} {xs : List Value} (hb : Below B w0 w) (hB : B ≤ w.heap.size) (hown : w.ownsRow B 3 1 v k xs) (hg : w.grownBy w' v.ownBlock) : Below B w0 w' :=
  hb.grown hg hB (fun k hk => (hown.lt k hk).1)
theorem own_ints {w : World} {B : Nat} {v : Value} {k : Nat} {l : List Int} (h : w.ownsRow B 3 1 v k (l.map (Value.int .i64))) (hl : l.length = k) : Ints w v l := by
  subst hl; exact ints_of_own h
set_option maxRecDepth 100000 in
set_option maxHeartbeats 2000000 in
theorem great_any {W : World} {funs : List FN} {nf : Nat} {fv : Value} (w : World) (hW : Below W.heap.size W w) (hrep : RepV (RepF W nf) 6 W fv funs) :
    Calls Tryz.prog 7 #[.agg #[fv]] w (SomeBool w) := by
  obtain ⟨A, c, rfl, hc1, hc2, hll⟩ := hrep.sl
  have HREP := Lib.hid hrep
  have HW := Lib.hid hW
  have hW0 := hW.size
  clear hrep hW
  go_enter Tryz.func7, Tryz.ntmps7
  go_wp2_with fail
  have hb0 : Below w.heap.size w (w.alloc (Obj.cells #[.slice A funs.length c] 24)) := (Below.refl _ _).alloc (Nat.le_refl _) _
  have hN0 : (w.alloc (Obj.cells #[.slice A funs.length c] 24)).heap[w.heap.size]? = some (Obj.cells #[.slice A funs.length c] 24 (0, 0)) := heap_alloc_at _ _
  refine (right_any _ (HW.out.trans (hb0.mono hW0)) HREP.out).mono ?_
  rintro e w1 ⟨rfl, hb1⟩
  have HB1 := Lib.hid (hb0.trans (hb1.mono (by simp)))
  have HN1 := Lib.hid ((hb1.block _ (by simp)).trans hN0)
  have hbs1 := HB1.out.size
  have hN1l := lt_of_block HN1.out
  clear hb0 hN0 hb1
  cases hr : rightF funs with
  | false =>
    go_wp2_with fail
    go_ret
    exact ⟨false, rfl, HB1.out⟩
  | true =>
    have HRP := Lib.hid (rightP_of hr)
    have h0 := rightF_pos hr
    clear hr
    go_wp2_with fail
    go_loopw [3, 4, 5] (fun vd vh i wr => GRel funs.length w w1 vd vh i wr) (fun _ _ i _ => funs.length - (intOf i).toNat)
    case atStart => exact ⟨0, [], [], Nat.zero_le _, rfl, rfl, rfl, (fun x hx => by simp at hx), (fun x hx => by simp at hx), World.ownsRow_nil _ _ _ _, World.ownsRow_nil _ _ _ _, (fun g hg => by simp [Value.ownBlock] at hg), HB1.out, Below.refl _ _⟩
    case round =>
      obtain ⟨k, ds, hs, hk, rfl, hdl, hhl, hbd, hbh, hod, hoh, hdis, hb, hb'⟩ := hrel
      have HBD := Lib.hid hbd
      have HBH := Lib.hid hbh
      have HOD := Lib.hid hod
      have HOH := Lib.hid hoh
      have HDIS := Lib.hid hdis
      have HB := Lib.hid hb
      have HB' := Lib.hid hb'
      have hbs := hb.size
      have hbs' := hb'.size
      have m0 := (hb'.cell (p := ⟨w.heap.size, 0, none⟩) hN1l).trans (cellB' HN1.out 0 rfl)
      have hNl : w.heap.size < wr.heap.size := Nat.lt_of_lt_of_le hN1l hb'.size
      obtain ⟨Ad, cd, hvd, hdc⟩ := own_ints hod hdl
      obtain ⟨Ah, ch, hvh, hhc⟩ := own_ints hoh hhl
      rw [hdl] at hvd
      rw [hhl] at hvh
      subst hvd hvh
      clear hbd hbh hod hoh hdis hb hb' hdc hhc
      by_cases hlt : k < funs.length
      · generalize hf : funs.getD k default = f
        have hcl := HRP.out.cells k hlt
        have hca := HRP.out.calls k hlt
        have hpa := HRP.out.parts k hlt
        rw [hf] at hcl hca hpa
        obtain ⟨b, o, c', Ap, cp, Ar, cr, Af, cf, Aq, cq, Ab, cb, hsl, -, hbW, k0, k1, k2, k3, k4, k5, r1, r2, r3, r4, r5⟩ := fn_cells HREP.out (HW.out.trans (HB.out.mono hW0)) hlt hf
        injection hsl with e1 e2 e3
        subst e1
        have hbl : b < wr.heap.size := by omega
        have HFQ := Lib.hid r4
        have HFB := Lib.hid r5
        have hfq := r4.1
        have HCA := Lib.hid hca
        have HPA := Lib.hid hpa
        clear hf e2 e3 hca hpa r1 r2 r3 r4 r5
        go_wp2_with fail
        go_loopw [6, 7] (fun n i w2 => GPRel f wr n i w2) (fun _ i _ => f.parts.length - (intOf i).toNat)
        case atStart => exact ⟨0, 1 + f.cells, Nat.zero_le _, rfl, rfl, by omega, by omega, rfl⟩
        case round =>
          obtain ⟨j, m, hj, rfl, rfl, hm0, hm1, rfl⟩ := hrel
          by_cases hlt2 : j < f.parts.length
          · obtain ⟨bp, op, cp', hpe, hbp, hp0, hp1, hpI0, hpI1⟩ := partL_cell HFQ.out (HW.out.trans (HB.out.mono hW0)) hlt2
            injection hpe with e1 e2 e3
            subst e1
            have hp := HPA.out f.parts[j] (List.getElem_mem _)
            generalize f.parts[j] = p at hp0 hp1 hp
            obtain ⟨pa, pf⟩ := p
            simp only at hp0 hp1 hp
            obtain ⟨fk, rfl⟩ := Int.eq_ofNat_of_zero_le hp.1
            have hfl : fk < hs.length := by omega
            obtain ⟨bt, ot, ct', het, hbt, hct⟩ := int_cell (own_ints HOH.out hhl) hfl
            injection het with e4 e5 e6
            subst e4
            have hx := HBH.out hs[fk] (List.getElem_mem _)
            generalize hs[fk] = xv at hct hx
            have hbpl : bp < wr.heap.size := by omega
            have hfk : fk < k := by omega
            clear e2 e3 e5 e6 hp
            go_wp2_with fail
            exact ⟨⟨j + 1, (if 1073741824 < m + xv then 1073741824 else m + xv), hlt2, by simp, rfl, by split <;> omega, by split <;> omega, rfl⟩, by simp [intOf]; omega⟩
          · obtain rfl : j = f.parts.length := by omega
            have hnw : (wr.alloc (Obj.cells #[Value.int IntKind.i64 m] 3)).cell? ((⟨wr.heap.size, 0, none⟩ : Addr).add 0) = some (.int .i64 m) := by
              have := cellB' (heap_alloc_at wr (Obj.cells #[Value.int IntKind.i64 m] 3)) 0 rfl
              exact this
            go_wp2_with (at_builtin; go_loud (refine append_int rfl (.tmp 54) (.tmp 56) rfl w1.heap.size _ k _ rfl (HOH.out.alloc _) ⟨wr.heap.size, 0, none⟩ m rfl hnw (by omega) (by simp; omega) ?_))
            intro vh' w4 hoh4 hgr4 hfr4
            have hal : Below wr.heap.size wr (wr.alloc (Obj.cells #[Value.int IntKind.i64 m] 3)) := (Below.refl _ _).alloc (Nat.le_refl _) _
            have hod4 := kept_dis (HOD.out.alloc (Obj.cells #[Value.int IntKind.i64 m] 3)) HDIS.out hgr4
            have hb4' : Below w1.heap.size w1 w4 := grow_below1 (HB'.out.trans (hal.mono hbs')) (by simp; omega) (HOH.out.alloc (Obj.cells #[Value.int IntKind.i64 m] 3)) hgr4
            have hdis4 : ∀ g, (Value.slice Ad k cd).ownBlock = some g → vh'.ownBlock ≠ some g := fun g hg hg' => by
              rcases hfr4 g hg' with h | h
              · exact HDIS.out g hg h
              · have := (HOD.out.lt g hg).2
                first | omega | (simp at h; omega)
            have hoh4' : w4.ownsRow w1.heap.size 3 1 vh' (k + 1) ((hs ++ [m]).map (Value.int .i64)) := by simpa using hoh4
            have hlen4 : (hs ++ [m]).length = k + 1 := by simp [hhl]
            have HBH4 := Lib.hid (big_snoc HBH.out (x := m) (by omega))
            obtain ⟨Ah', ch', hvh', -⟩ := own_ints hoh4' hlen4
            rw [hlen4] at hvh'
            have HOD4 := Lib.hid hod4
            have HOH4 := Lib.hid hoh4'
            have HDIS4 := Lib.hid hdis4
            have HB4' := Lib.hid hb4'
            have HB4 := Lib.hid (HB1.out.trans (hb4'.mono hbs1))
            have hbs4 := HB4.out.size
            have hbW4 : Below W.heap.size W w4 := HW.out.trans (HB4.out.mono hW0)
            have hbWr : Below W.heap.size W wr := HW.out.trans (HB.out.mono hW0)
            have k5' : w4.cell? ⟨b, o + k * 6 + 5, none⟩ = some (.slice Ab f.body.length cb) := (hbW4.cell (p := ⟨b, o + k * 6 + 5, none⟩) hbW).trans ((hbWr.cell (p := ⟨b, o + k * 6 + 5, none⟩) hbW).symm.trans k5)
            have m0' := (hb4'.cell (p := ⟨w.heap.size, 0, none⟩) hN1l).trans (cellB' HN1.out 0 rfl)
            have hNl4 : w.heap.size < w4.heap.size := Nat.lt_of_lt_of_le hN1l hb4'.size
            have hbl4 : b < w4.heap.size := by omega
            subst hvh'
            clear hal hod4 hoh4 hoh4' hgr4 hfr4 hdis4 hb4' hnw hbW4 hbWr k0 k1 k2 k3 k4 k5 m0 HOD HOH HB HB' hbs hbs' hNl hbl
            go_wp2_with fail
            refine (work_any W nf f.body Ab cb k w4 _ _ ds (hs ++ [m]) (HW.out.trans (HB4.out.mono hW0)) HFB.out HCA.out (by omega) (by rw [hlen4]; omega) (own_ints HOD4.out hdl) (own_ints HOH4.out hlen4) HBD.out HBH4.out (by omega) (by rw [hlen4]; omega)).mono ?_
            rintro e5 w5 ⟨x, hx0, hx1, rfl, hb5⟩
            have HOD5 := Lib.hid (own_below2 HOD4.out hb5)
            have HOH5 := Lib.hid (own_below2 HOH4.out hb5)
            have HB5 := Lib.hid (HB4.out.trans (hb5.mono hbs4))
            have HB5' := Lib.hid (HB4'.out.trans (hb5.mono HB4'.out.size))
            have hbs5' := HB5'.out.size
            have hbs5 := HB5.out.size
            clear hb5 k5' m0' hNl4 hbl4
            have hnw : (w5.alloc (Obj.cells #[Value.int IntKind.i64 x] 3)).cell? ((⟨w5.heap.size, 0, none⟩ : Addr).add 0) = some (.int .i64 x) := by
              have := cellB' (heap_alloc_at w5 (Obj.cells #[Value.int IntKind.i64 x] 3)) 0 rfl
              exact this
            go_wp2_with (at_builtin; go_loud (refine append_int rfl (.tmp 67) (.tmp 69) rfl w1.heap.size _ k _ rfl (HOD5.out.alloc _) ⟨w5.heap.size, 0, none⟩ x rfl hnw (by omega) (by simp; omega) ?_))
            intro vd' w6 hod6 hgr6 hfr6
            have hal : Below w5.heap.size w5 (w5.alloc (Obj.cells #[Value.int IntKind.i64 x] 3)) := (Below.refl _ _).alloc (Nat.le_refl _) _
            have hoh6 := kept_dis (HOH5.out.alloc (Obj.cells #[Value.int IntKind.i64 x] 3)) (vh := Value.slice Ad k cd) (fun g hg hg' => HDIS4.out g hg' hg) hgr6
            have hb6' : Below w1.heap.size w1 w6 := grow_below1 (HB5'.out.trans (hal.mono hbs5')) (by simp; omega) (HOD5.out.alloc (Obj.cells #[Value.int IntKind.i64 x] 3)) hgr6
            have hdis6 : ∀ g, vd'.ownBlock = some g → (Value.slice Ah' (k + 1) ch').ownBlock ≠ some g := fun g hg hg' => by
              rcases hfr6 g hg with h | h
              · exact HDIS4.out g h hg'
              · have := (HOH5.out.lt g hg').2
                first | omega | (simp at h; omega)
            have HOD6 := Lib.hid (show w6.ownsRow w1.heap.size 3 1 vd' (k + 1) ((ds ++ [x]).map (Value.int .i64)) by simpa using hod6)
            have HOH6 := Lib.hid hoh6
            have HDIS6 := Lib.hid hdis6
            have HB6' := Lib.hid hb6'
            clear hal hoh6 hod6 hb6' hdis6 hgr6 hfr6 hnw
            go_wp2_with fail
            exact ⟨⟨k + 1, ds ++ [x], hs ++ [m], hlt, by simp, by simp [hdl], hlen4, big_snoc HBD.out (by omega), HBH4.out, HOD6.out, HOH6.out, HDIS6.out, HB1.out.trans (HB6'.out.mono hbs1), HB6'.out⟩, by simp [intOf]; omega⟩
      · obtain rfl : k = funs.length := by omega
        have e1 : (funs.length : Int) - 1 = ((funs.length - 1 : Nat) : Int) := by omega
        obtain ⟨b1, o1, c1, hx1, hb1, hy1⟩ := int_cell (own_ints HOD.out hdl) (j := funs.length - 1) (by omega)
        obtain ⟨b2, o2, c2, hx2, hb2, hy2⟩ := int_cell (own_ints HOH.out hhl) (j := funs.length - 1) (by omega)
        injection hx1 with hx1 e5 e6
        injection hx2 with hx2 e7 e8
        subst hx1 hx2
        clear e5 e6 e7 e8
        generalize ds[funs.length - 1] = x at hy1
        generalize hs[funs.length - 1] = y at hy2
        go_wp2_with fail
        refine region_qtail 10 (by kernel_rfl) (by kernel_rfl) ?_
        simp only [List.take_succ_cons, List.take_zero, List.drop_succ_cons, List.drop_zero]
        repeat (go_big_quiet_step (fail))
        refine wpQuiet_nil ?_
        intro kq
        go_wp2_with fail
        all_goals (go_ret; exact ⟨_, rfl, Below.drewN' HB.out _⟩)
end Go.Proofs.YtoaajpppbjaomaaGreatDoor
/- Law 21: the walk of RunnerStays. -/
namespace Go.Proofs.YtoaajpppbjaomaaGreatDoor
open Go.RowKit
def StRel (W w5 : World) (R M : Nat) (fv : Value) (funs : List FN) (rows : List (List Int)) (t i : Value) (wr : World) : Prop :=
  ∃ (k : Nat) (r : RS), k ≤ rows.length ∧ i = .int .i64 k ∧ t = .bool r.trapped ∧ r.mem.length = lastCells funs ∧ MemSt W wr R M fv r.mem r.trapped r.count ∧ (r.trapped = false → ∀ v, some v ∈ r.mem → I64 v) ∧ Keep [R, M] w5 wr
theorem keep_low {w5 wr : World} {R M N : Nat} {o : Obj} (h : w5.heap[N]? = some o) (hk : Keep [R, M] w5 wr) (hR : N ≠ R) (hM : N ≠ M) : wr.heap[N]? = some o :=
  (hk.block N (lt_of_block h) (by simp [hR, hM])).trans h
theorem RowAt.on {W w w' : World} {sv : Value} {rows : List (List Int)} {j b o : Nat} {vi : Value} {l : List Int} (h : RowAt W w sv rows j b o vi l) (hb : Below w.heap.size w w') (hbl : b < w.heap.size) : RowAt W w' sv rows j b o vi l :=
  { h with
    cell := (hb.cell (p := ⟨b, o + j, none⟩) hbl).trans h.cell
    ints := h.ints.kept2 (Keep.of_below (S := []) hb) (fun x hx => by cases hx) }
set_option maxRecDepth 100000 in
set_option maxHeartbeats 4000000 in
theorem stays_any {W : World} {funs : List FN} {nf : Nat} {fv sv : Value} {rows : List (List Int)} (hE : ErrV W) (hrep : RepV (RepF W nf) 6 W fv funs) (hsc : RepV (RRow W) 1 W sv rows) :
    Calls Tryz.prog 5 #[.agg #[fv], sv] W (RetB (.bool true) W) := by
  obtain ⟨A, c, rfl, hc1, hc2, hfl⟩ := hrep.sl
  obtain ⟨Av, cv, rfl, hv1, hv2, hvl⟩ := hsc.sl
  have HREP := Lib.hid hrep
  have HSC := Lib.hid hsc
  have HE := Lib.hid hE
  clear hrep hsc hE
  go_enter Tryz.func5, Tryz.ntmps5
  go_wp2_with fail
  have hb0 : Below W.heap.size W (W.alloc (Obj.cells #[.slice A funs.length c] 24)) := (Below.refl _ _).alloc (Nat.le_refl _) _
  have hN0 : (W.alloc (Obj.cells #[.slice A funs.length c] 24)).heap[W.heap.size]? = some (Obj.cells #[.slice A funs.length c] 24 (0, 0)) := heap_alloc_at _ _
  refine (lives_any _ (by obtain ⟨tp, p, h⟩ := HE.out; exact ⟨tp, p, var?_alloc h⟩)).mono ?_
  rintro e w1 ⟨rfl, hb1⟩
  have HB1 := Lib.hid (hb0.trans (hb1.mono (by simp)))
  have HN1 := Lib.hid ((hb1.block _ (by simp)).trans hN0)
  have m0 := cellB' HN1.out 0 rfl
  have hl1 := lt_of_block HN1.out
  clear hb0 hN0 hb1
  go_wp2_with fail
  refine (great_any (W := W) w1 HB1.out HREP.out).mono ?_
  rintro e w2 ⟨b, rfl, hb2⟩
  have HB2 := Lib.hid (HB1.out.trans (hb2.mono HB1.out.size))
  have HN2 := Lib.hid ((hb2.block _ hl1).trans HN1.out)
  have m1 := cellB' HN2.out 0 rfl
  have hl2 := lt_of_block HN2.out
  clear hb2 m0
  cases b with
  | true =>
    go_wp2_with fail
    go_ret
    exact ⟨rfl, HB2.out⟩
  | false =>
  go_wp2_with fail
  refine (new_any w2 HB2.out HREP.out).mono ?_
  intro e w3 hP
  cases hr : rightF funs with
  | false =>
    obtain rfl := hP.field hr
    have HB3 := Lib.hid (HB2.out.trans (hP.below.mono HB2.out.size))
    clear hP
    go_wp2_with fail
    go_ret
    exact ⟨rfl, HB3.out⟩
  | true =>
  by_cases hv : 1000 < heavyV funs
  · obtain rfl := hP.bound hr hv
    have HB3 := Lib.hid (HB2.out.trans (hP.below.mono HB2.out.size))
    clear hP
    go_wp2_with fail
    go_ret
    exact ⟨rfl, HB3.out⟩
  obtain ⟨R, M, rfl, hRg, hMg, hst⟩ := hP.yes hr hv
  have HRP := Lib.hid (rightP_of hr)
  have h0 := rightF_pos hr
  have HB3 := Lib.hid (HB2.out.trans (hP.below.mono HB2.out.size))
  have HN3 := Lib.hid ((hP.below.block _ hl2).trans HN2.out)
  have HST := Lib.hid hst
  have hRl := lt_of_block hst.hR
  have hl3 := lt_of_block HN3.out
  have m2 := cellB' HN3.out 0 rfl
  clear hP hst hr hv m1
  have hz : ((funs.length : Int) == 0) = false := beq_false_of_ne (by omega)
  go_wp2_with fail
  go_loopw [7, 8] (fun t i wr => StRel W w3 R M (.slice A funs.length c) funs rows t i wr) (fun _ i _ => rows.length - (intOf i).toNat)
  case atStart => exact ⟨0, newF funs, Nat.zero_le _, rfl, rfl, newF_len HRP.out h0, HST.out, fun _ => newF_I64 funs, Keep.refl _ _⟩
  case round =>
    obtain ⟨k, r, hk, rfl, rfl, hml, hst, hmI, hkeep⟩ := hrel
    have HST := Lib.hid hst
    have HMI := Lib.hid hmI
    have HK := Lib.hid hkeep
    have HML := Lib.hid hml
    have HN := Lib.hid (keep_low HN3.out hkeep (by omega) (by omega))
    have hb : Below W.heap.size W wr := hst.below
    have HB := Lib.hid hb
    have m0 := cellB' HN.out 0 rfl
    have hNl := lt_of_block HN.out
    have hRl := lt_of_block hst.hR
    clear hst hmI hkeep hml m2 HN3
    by_cases hlt : k < rows.length
    · by_cases h20 : k < 20
      · obtain ⟨b, o, cs, vi, hsl, ha⟩ := row_at HSC.out hb hlt
        injection hsl with e1 e2 e3
        subst e1
        clear e2 e3 hb
        have HA := Lib.hid ha
        have ha0 := ha.cell
        have hal := World.block_lt_of_cell? wr _ ha0
        simp only at hal
        generalize hl : rows[k] = l at ha HA
        clear ha hl
        go_wp2_with fail
        refine (count_any HST.out).mono ?_
        rintro e w4 ⟨rfl, rfl⟩
        go_wp2_with fail
        refine (defined_any HST.out).mono ?_
        rintro e w4 ⟨rfl, hb4⟩
        have H4 := Lib.hid (HST.out.later hb4)
        have HB4 := Lib.hid hb4
        have HN4 := Lib.hid ((hb4.block _ hNl).trans HN.out)
        have ha4 := (hb4.cell (p := ⟨b, o + k, none⟩) hal).trans ha0
        have hal4 : b < w4.heap.size := Nat.lt_of_lt_of_le hal hb4.size
        have hra : RowAt W w4 (.slice (some ⟨b, o, none⟩) rows.length cv) rows k b o vi l := HA.out.on hb4 hal
        have HRA := Lib.hid hra
        clear hb4 ha0 hra
        go_wp2_with fail
        refine (row_step HREP.out HRP.out h0 H4.out HMI.out HRA.out).mono ?_
        rintro e w5 ⟨⟨lv, rfl, hown⟩, hk5, hst5, hmI5⟩
        have HQ := Lib.hid (stepF_facts funs r l)
        have HML5 := Lib.hid ((stepF_memlen HRP.out h0 r l).trans HML.out)
        generalize stepF funs r l = q at hown hst5 hmI5 HQ HML5
        obtain ⟨r', out, g⟩ := q
        simp only at hown hst5 hmI5 HQ HML5
        obtain ⟨A5, c5, hv5, -⟩ := ints_of_own hown
        subst hv5
        have HST5 := Lib.hid hst5
        have HMI5 := Lib.hid hmI5
        have HK5 := Lib.hid (HK.out.trans ((Keep.of_below HB4.out).trans hk5))
        have HN5 := Lib.hid ((hk5.block _ (lt_of_block HN4.out) (by simp; omega)).trans HN4.out)
        have hb5 : Below W.heap.size W w5 := hst5.below
        have HB5 := Lib.hid hb5
        obtain ⟨bf, off, cf', _, _, _, _, _, _, _, _, _, _, hsl, -, hbW, -, -, kx2, -, -, -, -⟩ := fn_cells HREP.out hb5 (k := lastF funs) (by unfold lastF; omega) rfl
        injection hsl with e1 e2 e3
        subst e1 e3
        clear e2 hb5
        have hcl := HRP.out.cells (lastF funs) (by unfold lastF; omega)
        have hlc : ((funs.getD (lastF funs) default).cells : Int) = (r'.mem.length : Int) := by rw [HML5.out]; unfold lastCells; omega
        rw [hlc, show lastF funs = funs.length - 1 from rfl] at kx2
        have hbfl : bf < w5.heap.size := by have := HB5.out.size; omega
        have hNl5 := lt_of_block HN5.out
        have n5 := cellB' HN5.out 0 rfl
        have hRl5 := lt_of_block hst5.hR
        have e4 : (funs.length : Int) - 1 = ((funs.length - 1 : Nat) : Int) := by omega
        have d5 : ((r'.mem.length : Int) != (r'.mem.length : Int)) = false := by simp
        clear hown hk5 hst5 hmI5 hcl hlc ha4 m0
        go_wp2_with fail
        refine region_qtail_in (C := fun w' => Below w5.heap.size w5 w') 18 (by kernel_rfl) (by kernel_rfl) (Below.refl _ _).drew ?_
        simp only [List.take_succ_cons, List.take_zero, List.drop_succ_cons, List.drop_zero]
        go_big_quiet_step (exact fun _ => rfl)
        refine wpQuiet_step (fun K hK => ?_)
        refine bq_one (.int .i64 (r'.mem.length : Nat)) (by kernel_rfl) (fun w' hw' => ?_) ?_
        · simp [Oper.quietAt, Oper.quietUpon, execOp, go_sem]
          refine (cells_any (HST5.out.later hw')).mono ?_
          rintro e w6 ⟨rfl, hb6⟩
          exact ⟨rfl, hb6 ▸ hw'⟩
        go_simp
        refine hK _ ?_
        clear hK K
        refine wpQuiet_step (fun K hK => ?_)
        refine bq_one (.pointer (some ⟨W.heap.size, 0, none⟩)) (by kernel_rfl) (fun w' hw' => ?_) ?_
        · simp [Oper.quietAt, Oper.quietUpon, execOp, go_sem]
        go_simp
        refine hK _ ?_
        clear hK K
        refine wpQuiet_step (fun K hK => ?_)
        refine bq_one (.slice (some ⟨bf, off, none⟩) funs.length c) (by kernel_rfl) (fun w' hw' => ?_) ?_
        · have q0 := (hw'.cell (p := ⟨W.heap.size, 0, none⟩) hNl5).trans n5
          simp [Oper.quietAt, Oper.quietUpon, execOp, go_sem, q0]
        go_simp
        refine hK _ ?_
        clear hK K
        refine wpQuiet_step (fun K hK => ?_)
        refine bq_one (.pointer (some ⟨W.heap.size, 0, none⟩)) (by kernel_rfl) (fun w' hw' => ?_) ?_
        · simp [Oper.quietAt, Oper.quietUpon, execOp, go_sem]
        go_simp
        refine hK _ ?_
        clear hK K
        refine wpQuiet_step (fun K hK => ?_)
        refine bq_one (.slice (some ⟨bf, off, none⟩) funs.length c) (by kernel_rfl) (fun w' hw' => ?_) ?_
        · have q0 := (hw'.cell (p := ⟨W.heap.size, 0, none⟩) hNl5).trans n5
          simp [Oper.quietAt, Oper.quietUpon, execOp, go_sem, q0]
        go_simp
        refine hK _ ?_
        clear hK K
        go_big_quiet_step (exact fun _ => rfl)
        go_big_quiet_step (exact fun _ => rfl)
        refine wpQuiet_step (fun K hK => ?_)
        refine bq_one (.pointer (some ⟨bf, off + (funs.length - 1) * 6, none⟩)) (by kernel_rfl) (fun w' hw' => ?_) ?_
        · have q0 : funs.length - 1 < funs.length := by omega
          simp [q0, Oper.quietAt, Oper.quietUpon, execOp, go_sem]
        go_simp
        refine hK _ ?_
        clear hK K
        refine wpQuiet_step (fun K hK => ?_)
        refine bq_one (.pointer (some ⟨bf, off + (funs.length - 1) * 6 + 2, none⟩)) (by kernel_rfl) (fun w' hw' => ?_) ?_
        · simp [Oper.quietAt, Oper.quietUpon, execOp, go_sem]
        go_simp
        refine hK _ ?_
        clear hK K
        refine wpQuiet_step (fun K hK => ?_)
        refine bq_one (.int .i64 (r'.mem.length : Nat)) (by kernel_rfl) (fun w' hw' => ?_) ?_
        · have q0 := (hw'.cell (p := ⟨bf, off + (funs.length - 1) * 6 + 2, none⟩) hbfl).trans kx2
          simp [Oper.quietAt, Oper.quietUpon, execOp, go_sem, q0]
        go_simp
        refine hK _ ?_
        clear hK K
        go_big_quiet_step (exact fun _ => rfl)
        go_big_quiet_step (exact fun _ => rfl)
        go_big_quiet_step (exact fun _ => rfl)
        refine wpQuiet_step (fun K hK => ?_)
        refine bq_one (.int .i64 (definedF r'.mem : Nat)) (by kernel_rfl) (fun w' hw' => ?_) ?_
        · simp [Oper.quietAt, Oper.quietUpon, execOp, go_sem]
          refine (defined_any (HST5.out.later hw')).mono ?_
          rintro e w6 ⟨rfl, hb6⟩
          exact ⟨rfl, hw'.trans (hb6.mono hw'.size)⟩
        go_simp
        refine hK _ ?_
        clear hK K
        go_big_quiet_step (exact fun _ => rfl)
        refine wpQuiet_step (fun K hK => ?_)
        refine bq_one (.int .i64 (r'.mem.length : Nat)) (by kernel_rfl) (fun w' hw' => ?_) ?_
        · simp [Oper.quietAt, Oper.quietUpon, execOp, go_sem]
          refine (cells_any (HST5.out.later hw')).mono ?_
          rintro e w6 ⟨rfl, hb6⟩
          exact ⟨rfl, hb6 ▸ hw'⟩
        go_simp
        refine hK _ ?_
        clear hK K
        go_big_quiet_step (exact fun _ => rfl)
        refine wpQuiet_nil ?_
        intro w6 hb6
        have HST6 := Lib.hid (HST5.out.later hb6)
        have HK6 := Lib.hid (HK5.out.trans (Keep.of_below hb6))
        have HB6 := Lib.hid (HB5.out.trans (hb6.mono HB5.out.size))
        have hRl6 := lt_of_block HST6.out.hR
        have hdl := definedF_len r'.mem
        have HQ' := HQ.out
        have d6 : decide ((r'.mem.length : Int) < (definedF r'.mem : Int)) = false := by simp; omega
        clear hb6 n5 kx2 hbfl hNl5 hRl5 hal4 d5 e4
        rcases HQ'.kinds with rfl | rfl | rfl | rfl
        · have htr : r.trapped = false := by
            have := HQ'.was (by simp)
            simpa using this
          have hnow : r'.trapped = false := by
            have := HQ'.now
            rw [htr] at this
            simpa using this
          clear HQ'
          go_wp2_with fail
          refine ⟨⟨k + 1, r', hlt, by simp, by rw [hnow], HML5.out, HST6.out, HMI5.out, HK6.out⟩, by simp [intOf]; omega⟩
        · obtain rfl := HQ'.none (by simp)
          obtain rfl := HQ'.same (.inl rfl)
          clear HQ'
          go_wp2_with fail
          refine (count_any HST6.out).mono ?_
          rintro e w7 ⟨rfl, rfl⟩
          go_wp2_with fail
          refine (defined_any HST6.out).mono ?_
          rintro e w7 ⟨rfl, hb7⟩
          have HST7 := Lib.hid (HST6.out.later hb7)
          have HK7 := Lib.hid (HK6.out.trans (Keep.of_below hb7))
          clear hb7
          cases htr : r'.trapped with
          | false =>
            go_wp2_with fail
            refine ⟨⟨k + 1, r', hlt, by simp, by rw [htr], HML5.out, HST7.out, HMI5.out, HK7.out⟩, by simp [intOf]; omega⟩
          | true =>
            go_wp2_with fail
            refine ⟨⟨k + 1, r', hlt, by simp, by rw [htr], HML5.out, HST7.out, HMI5.out, HK7.out⟩, by simp [intOf]; omega⟩
        · obtain rfl := HQ'.none (by simp)
          have htr : r.trapped = false := by
            have := HQ'.was (by simp)
            simpa using this
          have hnow : r'.trapped = true := by
            have := HQ'.now
            simpa using this
          clear HQ'
          go_wp2_with fail
          refine ⟨⟨k + 1, r', hlt, by simp, by rw [hnow], HML5.out, HST6.out, HMI5.out, HK6.out⟩, by simp [intOf]; omega⟩
        · obtain rfl := HQ'.none (by simp)
          obtain rfl := HQ'.same (.inr rfl)
          have htr : r'.trapped = true := by
            have := HQ'.was (by simp)
            simpa using this
          clear HQ'
          go_wp2_with fail
          refine (count_any HST6.out).mono ?_
          rintro e w7 ⟨rfl, rfl⟩
          go_wp2_with fail
          refine (defined_any HST6.out).mono ?_
          rintro e w7 ⟨rfl, hb7⟩
          have HST7 := Lib.hid (HST6.out.later hb7)
          have HK7 := Lib.hid (HK6.out.trans (Keep.of_below hb7))
          clear hb7
          go_wp2_with fail
          refine ⟨⟨k + 1, r', hlt, by simp, by rw [htr], HML5.out, HST7.out, HMI5.out, HK7.out⟩, by simp [intOf]; omega⟩
      · clear hb
        go_wp2_with fail
        go_ret
        exact ⟨rfl, HB.out⟩
    · clear hb
      go_wp2_with fail
      go_ret
      exact ⟨rfl, HB.out⟩
end Go.Proofs.YtoaajpppbjaomaaGreatDoor
