/- Texts merged by program: parts Ru, Cd, Ka, Ro, Ba, Bb, Kb, La. -/
import Derived.Test.YtoaajpppbjaomaaGreatDoorM05
import Derived.Test.YtoaajpppbjaomaaGreatDoorRows
import Derived.ChangeArms
import Derived.DataReads
import Derived.Defers
import Derived.Recover
import Derived.Laws.Pointers
/- runner.New. -/
namespace Go.Proofs.YtoaajpppbjaomaaGreatDoor
open Go.RowKit
theorem Tryz.infoCell : (Tryz.prog.info? 73).map (fun i => (i.zero, i.size, i.bytes)) = some (some (.agg #[.int .i64 0, .bool false]), 2, 16) := by kernel_rfl
theorem made_memC (n : Nat) : madeCells #[.int .i64 0, .bool false] (n * 2) = memC (List.replicate n none) := by
  have h := zeroC n
  have e : Builtin.zeroCells #[.int .i64 0, .bool false] n = madeCells #[.int .i64 0, .bool false] (n * 2) := by
    simp [Builtin.zeroCells, madeCells]
  rw [← e]
  unfold memC
  rw [← h]
theorem mk_cells (n : Nat) (hn : n ≤ 1000) (w : World) : (Instr.makeSlice 60 (.int .i64 (n : Int)) (.int .i64 (n : Int))).run Tryz.prog w = .ok (.slice (some ⟨w.heap.size, 0, none⟩) n n) (w.alloc (.cells (memC (List.replicate n none)) 73)) := by
  obtain ⟨i, hi, hzz⟩ := Option.map_eq_some_iff.1 Tryz.infoCell
  simp only [Prod.mk.injEq] at hzz
  obtain ⟨hz, hs, hb⟩ := hzz
  have hr := run_make (P := Tryz.prog) w 60 73 i _ Tryz.underlying60 hi hz .i64 .i64 n n (by omega) (Int.le_refl _) (by rw [hb]; omega) (by omega)
  simp only [Int.toNat_natCast, hs] at hr
  rw [show (Value.agg #[.int .i64 0, .bool false]).cells = #[.int .i64 0, .bool false] from rfl, made_memC] at hr
  exact hr
structure NewP (W : World) (funs : List FN) (fv : Value) (w : World) (e : Ending) (w' : World) : Prop where
  below : Below w.heap.size w w'
  field : rightF funs = false → e = .returned (.tuple #[.pointer none, .int .i64 10])
  bound : rightF funs = true → 1000 < heavyV funs → e = .returned (.tuple #[.pointer none, .int .i64 9])
  yes : rightF funs = true → ¬ 1000 < heavyV funs → ∃ R M, e = .returned (.tuple #[.pointer (some ⟨R, 0, none⟩), .int .i64 0]) ∧ w.heap.size ≤ R ∧ w.heap.size ≤ M ∧ MemSt W w' R M fv (newF funs).mem false 0
theorem rightF_pos {funs : List FN} (h : rightF funs = true) : 0 < funs.length := by
  unfold rightF at h
  simp only [Bool.and_eq_true, decide_eq_true_eq] at h
  exact h.2
set_option maxRecDepth 100000 in
set_option maxHeartbeats 2000000 in
theorem new_any {W : World} {funs : List FN} {nf : Nat} {fv : Value} (w : World) (hW : Below W.heap.size W w) (hrep : RepV (RepF W nf) 6 W fv funs) :
    Calls Tryz.prog 8 #[.agg #[fv]] w (NewP W funs fv w) := by
  obtain ⟨A, c, rfl, hc1, hc2, hll⟩ := hrep.sl
  have HREP := Lib.hid hrep
  have HW := Lib.hid hW
  have hW0 := hW.size
  clear hrep hW
  go_enter Tryz.func8, Tryz.ntmps8
  go_wp2_with fail
  have hb1 : Below w.heap.size w (w.alloc (Obj.cells #[.slice A funs.length c] 24)) := (Below.refl _ _).alloc (Nat.le_refl _) _
  have hN1 : (w.alloc (Obj.cells #[.slice A funs.length c] 24)).heap[w.heap.size]? = some (Obj.cells #[.slice A funs.length c] 24 (0, 0)) := heap_alloc_at _ _
  refine (weigh_any A c _ (HW.out.trans (hb1.mono hW0)) HREP.out).mono ?_
  rintro e w2 ⟨rfl, hb2⟩
  have HB2 := Lib.hid (hb1.trans (hb2.mono (by simp)))
  have HN2 := Lib.hid ((hb2.block _ (by simp)).trans hN1)
  have hbs2 := HB2.out.size
  clear hb1 hN1 hb2
  cases hr : rightF funs with
  | false =>
    go_wp2_with fail
    go_ret2
    exact ⟨HB2.out, fun _ => rfl, fun h => (by rw [hr] at h; cases h), fun h => (by rw [hr] at h; cases h)⟩
  | true =>
    have h0 := rightF_pos hr
    have HR := Lib.hid (rightP_of hr)
    have HRT := Lib.hid hr
    generalize hv : heavyV funs = hvv
    clear hr
    simp only [if_true]
    by_cases hh : 1000 < hvv
    · go_wp2_with fail
      go_ret2
      exact ⟨HB2.out, fun h => (by rw [HRT.out] at h; cases h), fun _ _ => rfl, fun _ h => absurd (hv ▸ hh) h⟩
    · have hlast : lastF funs < funs.length := by unfold lastF; omega
      generalize hf : funs.getD (lastF funs) default = f
      have hcl := HR.out.cells _ hlast
      rw [hf] at hcl
      obtain ⟨cl, hcl'⟩ := Int.eq_ofNat_of_zero_le hcl.1
      obtain ⟨b, o, c', Ap, cp, Ar, cr, Af, cf, Aq, cq, Ab, cb, hsl, -, hbW, -, -, k2, -, -, -, -⟩ := fn_cells HREP.out (HW.out.trans (HB2.out.mono hW0)) hlast hf
      rw [show lastF funs = funs.length - 1 from rfl, hcl'] at k2
      injection hsl with e1 e2 e3
      subst e1
      have hmk := mk_cells cl (by omega)
      have e4 : (funs.length : Int) - 1 = ((funs.length - 1 : Nat) : Int) := by omega
      have n0 := cellB' HN2.out 0 rfl
      have hnl := lt_of_block HN2.out
      have hbl : b < w2.heap.size := by omega
      have HF := Lib.hid hf
      clear e2 e3 hf
      go_wp2_with fail
      go_region
      obtain ⟨w3, hw3⟩ : ∃ w3, w3 = ((w2.alloc (Obj.cells (memC (List.replicate cl none)) 73)).alloc (Obj.cells #[Value.slice (some ⟨b, o, none⟩) funs.length c, Value.slice (some ⟨w2.heap.size, 0, none⟩) cl cl, Value.bool false, Value.int IntKind.i64 0] 62)).drew := ⟨_, rfl⟩
      rw [← hw3]
      have s1 : (w2.alloc (Obj.cells (memC (List.replicate cl none)) 73)).heap.size = w2.heap.size + 1 := by simp
      have hb3 : Below w2.heap.size w2 w3 := by rw [hw3]; exact (((Below.refl _ _).alloc (Nat.le_refl _) _).alloc (by rw [s1]; omega) _).drew
      have hM3 : w3.heap[w2.heap.size]? = some (Obj.cells (memC (List.replicate cl none)) 73 (0, 0)) := by
        rw [hw3]; show ((w2.alloc _).alloc _).heap[w2.heap.size]? = _
        rw [heap_alloc_lt (by rw [s1]; omega)]; exact heap_alloc_at _ _
      have hR3 : w3.heap[w2.heap.size + 1]? = some (Obj.cells #[Value.slice (some ⟨b, o, none⟩) funs.length c, Value.slice (some ⟨w2.heap.size, 0, none⟩) cl cl, Value.bool false, Value.int IntKind.i64 0] 62 (0, 0)) := by
        rw [hw3]; show ((w2.alloc _).alloc _).heap[w2.heap.size + 1]? = _
        rw [← s1]; exact heap_alloc_at _ _
      have hst : MemSt W w3 (w2.heap.size + 1) w2.heap.size (Value.slice (some ⟨b, o, none⟩) funs.length c) (List.replicate cl none) false 0 :=
        ⟨HW.out.trans ((HB2.out.trans (hb3.mono hbs2)).mono hW0), by rw [List.length_replicate]; exact hR3, hM3, by omega, by omega, by omega, by rw [List.length_replicate]; omega⟩
      have HST := Lib.hid hst
      have HB3 := Lib.hid (HB2.out.trans (hb3.mono hbs2))
      have HCL := Lib.hid hcl'
      clear hw3 hb3 hM3 hR3 hst n0 k2 hmk hcl' hcl
      generalize hM : w2.heap.size = M at HST ⊢
      go_wp2_with fail
      refine (begin_any HREP.out HR.out h0 HST.out (by rw [HF.out, HCL.out, List.length_replicate]; simp)).mono ?_
      rintro e5 w5 ⟨rfl, hk5, hst5⟩
      have hrep : newF funs = ⟨anewF funs funs.length (lastF funs) 0 (List.replicate cl none), false, 0⟩ := by
        unfold newF
        rw [HF.out, HCL.out]; rfl
      have HST5 := Lib.hid hst5
      have HK5 := Lib.hid hk5
      have HNF := Lib.hid hrep
      clear hst5 hk5 hrep
      go_wp2_with fail
      go_ret2
      refine ⟨?_, fun h => (by rw [HRT.out] at h; cases h), fun _ h => absurd (hv ▸ h : 1000 < hvv) (by omega), fun _ _ => ⟨M + 1, M, rfl, by omega, by omega, ?_⟩⟩
      · exact HK5.out.below HB3.out HB3.out.size (fun x hx => by
          simp only [List.mem_cons, List.mem_nil_iff, or_false] at hx
          omega)
      · rw [HNF.out]; exact HST5.out
end Go.Proofs.YtoaajpppbjaomaaGreatDoor
/- The reference's Great: it hands back some Boolean. -/
namespace Go.Proofs.YtoaajpppbjaomaaGreatDoor
open Go.RowKit
def SomeBool (w : World) (e : Ending) (w' : World) : Prop := ∃ b : Bool, e = .returned (.bool b) ∧ Below w.heap.size w w'
def GRel (n : Nat) (w w1 : World) (vd vh i : Value) (wr : World) : Prop :=
  ∃ (k : Nat) (ds hs : List Int), k ≤ n ∧ i = .int .i64 k ∧ ds.length = k ∧ hs.length = k ∧ Big ds ∧ Big hs ∧ wr.ownsRow w1.heap.size 3 1 vd k (ds.map (Value.int .i64)) ∧ wr.ownsRow w1.heap.size 3 1 vh k (hs.map (Value.int .i64)) ∧
    (∀ g, vd.ownBlock = some g → vh.ownBlock ≠ some g) ∧ Below w.heap.size w wr ∧ Below w1.heap.size w1 wr
def GPRel (f : FN) (w2 : World) (n i : Value) (wr : World) : Prop :=
  ∃ (j : Nat) (m : Int), j ≤ f.parts.length ∧ i = .int .i64 j ∧ n = .int .i64 m ∧ 0 ≤ m ∧ m ≤ 1073741824 ∧ wr = w2
theorem big_snoc {l : List Int} {x : Int} (h : Big l) (hx : 0 ≤ x ∧ x ≤ 2147483648) : Big (l ++ [x]) := fun y hy => by
  rcases List.mem_append.1 hy with hy | hy
  · exact h y hy
  · simp at hy; subst hy; exact hx
theorem own_below2 {w w' : World} {B : Nat} {v : Value} {k : Nat} {xs : List Value} (h : w.ownsRow B 3 1 v k xs) (hb : Below w.heap.size w w') : w'.ownsRow B 3 1 v k xs := by
  refine ⟨h.1, ?_⟩
  rcases h.2 with h2 | ⟨g, cap, cur, hv, hg, hh, r⟩
  · exact .inl h2
  · exact .inr ⟨g, cap, cur, hv, hg, by rw [hb.block g (lt_of_block hh)]; exact hh, r⟩
theorem kept_dis {w w' : World} {B : Nat} {vd vh : Value} {k : Nat} {xs : List Value} (h : w.ownsRow B 3 1 vd k xs) (hd : ∀ g, vd.ownBlock = some g → vh.ownBlock ≠ some g) (hg : w.grownBy w' vh.ownBlock) : w'.ownsRow B 3 1 vd k xs := by
  refine h.kept hg ?_
  cases hv : vd.ownBlock with
  | none => exact .inl rfl
  | some g => exact .inr (fun e => hd g hv e.symm)
theorem grow_below1 {B : Nat} {w0 w w' : World} {v : Value} {k : Nat} {xs : List Value} (hb : Below B w0 w) (hB : B ≤ w.heap.size) (hown : w.ownsRow B 3 1 v k xs) (hg : w.grownBy w' v.ownBlock) : Below B w0 w' :=
  hb.grown hg hB (fun k hk => (hown.lt k hk).1)
theorem own_ints {w : World} {B : Nat} {v : Value} {k : Nat} {l : List Int} (h : w.ownsRow B 3 1 v k (l.map (Value.int .i64))) (hl : l.length = k) : Ints w v l := by
  subst hl; exact ints_of_own h
set_option maxRecDepth 100000 in
set_option maxHeartbeats 2000000 in
theorem great_any {W : World} {funs : List FN} {nf : Nat} {fv : Value} (w : World) (hW : Below W.heap.size W w) (hrep : RepV (RepF W nf) 6 W fv funs) :
    Calls Tryz.prog 7 #[.agg #[fv]] w (SomeBool w) := by
  obtain ⟨A, c, rfl, hc1, hc2, hll⟩ := hrep.sl
  have HREP := Lib.hid hrep
  have HW := Lib.hid hW
  have hW0 := hW.size
  clear hrep hW
  go_enter Tryz.func7, Tryz.ntmps7
  go_wp2_with fail
  have hb0 : Below w.heap.size w (w.alloc (Obj.cells #[.slice A funs.length c] 24)) := (Below.refl _ _).alloc (Nat.le_refl _) _
  have hN0 : (w.alloc (Obj.cells #[.slice A funs.length c] 24)).heap[w.heap.size]? = some (Obj.cells #[.slice A funs.length c] 24 (0, 0)) := heap_alloc_at _ _
  refine (right_any _ (HW.out.trans (hb0.mono hW0)) HREP.out).mono ?_
  rintro e w1 ⟨rfl, hb1⟩
  have HB1 := Lib.hid (hb0.trans (hb1.mono (by simp)))
  have HN1 := Lib.hid ((hb1.block _ (by simp)).trans hN0)
  have hbs1 := HB1.out.size
  have hN1l := lt_of_block HN1.out
  clear hb0 hN0 hb1
  cases hr : rightF funs with
  | false =>
    go_wp2_with fail
    go_ret
    exact ⟨false, rfl, HB1.out⟩
  | true =>
    have HRP := Lib.hid (rightP_of hr)
    have h0 := rightF_pos hr
    clear hr
    go_wp2_with fail
    go_loopw [3, 4, 5] (fun vd vh i wr => GRel funs.length w w1 vd vh i wr) (fun _ _ i _ => funs.length - (intOf i).toNat)
    case atStart => exact ⟨0, [], [], Nat.zero_le _, rfl, rfl, rfl, (fun x hx => by simp at hx), (fun x hx => by simp at hx), World.ownsRow_nil _ _ _ _, World.ownsRow_nil _ _ _ _, (fun g hg => by simp [Value.ownBlock] at hg), HB1.out, Below.refl _ _⟩
    case round =>
      obtain ⟨k, ds, hs, hk, rfl, hdl, hhl, hbd, hbh, hod, hoh, hdis, hb, hb'⟩ := hrel
      have HBD := Lib.hid hbd
      have HBH := Lib.hid hbh
      have HOD := Lib.hid hod
      have HOH := Lib.hid hoh
      have HDIS := Lib.hid hdis
      have HB := Lib.hid hb
      have HB' := Lib.hid hb'
      have hbs := hb.size
      have hbs' := hb'.size
      have m0 := (hb'.cell (p := ⟨w.heap.size, 0, none⟩) hN1l).trans (cellB' HN1.out 0 rfl)
      have hNl : w.heap.size < wr.heap.size := Nat.lt_of_lt_of_le hN1l hb'.size
      obtain ⟨Ad, cd, hvd, hdc⟩ := own_ints hod hdl
      obtain ⟨Ah, ch, hvh, hhc⟩ := own_ints hoh hhl
      rw [hdl] at hvd
      rw [hhl] at hvh
      subst hvd hvh
      clear hbd hbh hod hoh hdis hb hb' hdc hhc
      by_cases hlt : k < funs.length
      · generalize hf : funs.getD k default = f
        have hcl := HRP.out.cells k hlt
        have hca := HRP.out.calls k hlt
        have hpa := HRP.out.parts k hlt
        rw [hf] at hcl hca hpa
        obtain ⟨b, o, c', Ap, cp, Ar, cr, Af, cf, Aq, cq, Ab, cb, hsl, -, hbW, k0, k1, k2, k3, k4, k5, r1, r2, r3, r4, r5⟩ := fn_cells HREP.out (HW.out.trans (HB.out.mono hW0)) hlt hf
        injection hsl with e1 e2 e3
        subst e1
        have hbl : b < wr.heap.size := by omega
        have HFQ := Lib.hid r4
        have HFB := Lib.hid r5
        have hfq := r4.1
        have HCA := Lib.hid hca
        have HPA := Lib.hid hpa
        clear hf e2 e3 hca hpa r1 r2 r3 r4 r5
        go_wp2_with fail
        go_loopw [6, 7] (fun n i w2 => GPRel f wr n i w2) (fun _ i _ => f.parts.length - (intOf i).toNat)
        case atStart => exact ⟨0, 1 + f.cells, Nat.zero_le _, rfl, rfl, by omega, by omega, rfl⟩
        case round =>
          obtain ⟨j, m, hj, rfl, rfl, hm0, hm1, rfl⟩ := hrel
          by_cases hlt2 : j < f.parts.length
          · obtain ⟨bp, op, cp', hpe, hbp, hp0, hp1, hpI0, hpI1⟩ := partL_cell HFQ.out (HW.out.trans (HB.out.mono hW0)) hlt2
            injection hpe with e1 e2 e3
            subst e1
            have hp := HPA.out f.parts[j] (List.getElem_mem _)
            generalize f.parts[j] = p at hp0 hp1 hp
            obtain ⟨pa, pf⟩ := p
            simp only at hp0 hp1 hp
            obtain ⟨fk, rfl⟩ := Int.eq_ofNat_of_zero_le hp.1
            have hfl : fk < hs.length := by omega
            obtain ⟨bt, ot, ct', het, hbt, hct⟩ := int_cell (own_ints HOH.out hhl) hfl
            injection het with e4 e5 e6
            subst e4
            have hx := HBH.out hs[fk] (List.getElem_mem _)
            generalize hs[fk] = xv at hct hx
            have hbpl : bp < wr.heap.size := by omega
            have hfk : fk < k := by omega
            clear e2 e3 e5 e6 hp
            go_wp2_with fail
            exact ⟨⟨j + 1, (if 1073741824 < m + xv then 1073741824 else m + xv), hlt2, by simp, rfl, by split <;> omega, by split <;> omega, rfl⟩, by simp [intOf]; omega⟩
          · obtain rfl : j = f.parts.length := by omega
            have hnw : (wr.alloc (Obj.cells #[Value.int IntKind.i64 m] 3)).cell? ((⟨wr.heap.size, 0, none⟩ : Addr).add 0) = some (.int .i64 m) := by
              have := cellB' (heap_alloc_at wr (Obj.cells #[Value.int IntKind.i64 m] 3)) 0 rfl
              exact this
            go_wp2_with (at_builtin; go_loud (refine append_int rfl (.tmp 54) (.tmp 56) rfl w1.heap.size _ k _ rfl (HOH.out.alloc _) ⟨wr.heap.size, 0, none⟩ m rfl hnw (by omega) (by simp; omega) ?_))
            intro vh' w4 hoh4 hgr4 hfr4
            have hal : Below wr.heap.size wr (wr.alloc (Obj.cells #[Value.int IntKind.i64 m] 3)) := (Below.refl _ _).alloc (Nat.le_refl _) _
            have hod4 := kept_dis (HOD.out.alloc (Obj.cells #[Value.int IntKind.i64 m] 3)) HDIS.out hgr4
            have hb4' : Below w1.heap.size w1 w4 := grow_below1 (HB'.out.trans (hal.mono hbs')) (by simp; omega) (HOH.out.alloc (Obj.cells #[Value.int IntKind.i64 m] 3)) hgr4
            have hdis4 : ∀ g, (Value.slice Ad k cd).ownBlock = some g → vh'.ownBlock ≠ some g := fun g hg hg' => by
              rcases hfr4 g hg' with h | h
              · exact HDIS.out g hg h
              · have := (HOD.out.lt g hg).2
                first | omega | (simp at h; omega)
            have hoh4' : w4.ownsRow w1.heap.size 3 1 vh' (k + 1) ((hs ++ [m]).map (Value.int .i64)) := by simpa using hoh4
            have hlen4 : (hs ++ [m]).length = k + 1 := by simp [hhl]
            have HBH4 := Lib.hid (big_snoc HBH.out (x := m) (by omega))
            obtain ⟨Ah', ch', hvh', -⟩ := own_ints hoh4' hlen4
            rw [hlen4] at hvh'
            have HOD4 := Lib.hid hod4
            have HOH4 := Lib.hid hoh4'
            have HDIS4 := Lib.hid hdis4
            have HB4' := Lib.hid hb4'
            have HB4 := Lib.hid (HB1.out.trans (hb4'.mono hbs1))
            have hbs4 := HB4.out.size
            have hbW4 : Below W.heap.size W w4 := HW.out.trans (HB4.out.mono hW0)
            have hbWr : Below W.heap.size W wr := HW.out.trans (HB.out.mono hW0)
            have k5' : w4.cell? ⟨b, o + k * 6 + 5, none⟩ = some (.slice Ab f.body.length cb) := (hbW4.cell (p := ⟨b, o + k * 6 + 5, none⟩) hbW).trans ((hbWr.cell (p := ⟨b, o + k * 6 + 5, none⟩) hbW).symm.trans k5)
            have m0' := (hb4'.cell (p := ⟨w.heap.size, 0, none⟩) hN1l).trans (cellB' HN1.out 0 rfl)
            have hNl4 : w.heap.size < w4.heap.size := Nat.lt_of_lt_of_le hN1l hb4'.size
            have hbl4 : b < w4.heap.size := by omega
            subst hvh'
            clear hal hod4 hoh4 hoh4' hgr4 hfr4 hdis4 hb4' hnw hbW4 hbWr k0 k1 k2 k3 k4 k5 m0 HOD HOH HB HB' hbs hbs' hNl hbl
            go_wp2_with fail
            refine (work_any W nf f.body Ab cb k w4 _ _ ds (hs ++ [m]) (HW.out.trans (HB4.out.mono hW0)) HFB.out HCA.out (by omega) (by rw [hlen4]; omega) (own_ints HOD4.out hdl) (own_ints HOH4.out hlen4) HBD.out HBH4.out (by omega) (by rw [hlen4]; omega)).mono ?_
            rintro e5 w5 ⟨x, hx0, hx1, rfl, hb5⟩
            have HOD5 := Lib.hid (own_below2 HOD4.out hb5)
            have HOH5 := Lib.hid (own_below2 HOH4.out hb5)
            have HB5 := Lib.hid (HB4.out.trans (hb5.mono hbs4))
            have HB5' := Lib.hid (HB4'.out.trans (hb5.mono HB4'.out.size))
            have hbs5' := HB5'.out.size
            have hbs5 := HB5.out.size
            clear hb5 k5' m0' hNl4 hbl4
            have hnw : (w5.alloc (Obj.cells #[Value.int IntKind.i64 x] 3)).cell? ((⟨w5.heap.size, 0, none⟩ : Addr).add 0) = some (.int .i64 x) := by
              have := cellB' (heap_alloc_at w5 (Obj.cells #[Value.int IntKind.i64 x] 3)) 0 rfl
              exact this
            go_wp2_with (at_builtin; go_loud (refine append_int rfl (.tmp 67) (.tmp 69) rfl w1.heap.size _ k _ rfl (HOD5.out.alloc _) ⟨w5.heap.size, 0, none⟩ x rfl hnw (by omega) (by simp; omega) ?_))
            intro vd' w6 hod6 hgr6 hfr6
            have hal : Below w5.heap.size w5 (w5.alloc (Obj.cells #[Value.int IntKind.i64 x] 3)) := (Below.refl _ _).alloc (Nat.le_refl _) _
            have hoh6 := kept_dis (HOH5.out.alloc (Obj.cells #[Value.int IntKind.i64 x] 3)) (vh := Value.slice Ad k cd) (fun g hg hg' => HDIS4.out g hg' hg) hgr6
            have hb6' : Below w1.heap.size w1 w6 := grow_below1 (HB5'.out.trans (hal.mono hbs5')) (by simp; omega) (HOD5.out.alloc (Obj.cells #[Value.int IntKind.i64 x] 3)) hgr6
            have hdis6 : ∀ g, vd'.ownBlock = some g → (Value.slice Ah' (k + 1) ch').ownBlock ≠ some g := fun g hg hg' => by
              rcases hfr6 g hg with h | h
              · exact HDIS4.out g h hg'
              · have := (HOH5.out.lt g hg').2
                first | omega | (simp at h; omega)
            have HOD6 := Lib.hid (show w6.ownsRow w1.heap.size 3 1 vd' (k + 1) ((ds ++ [x]).map (Value.int .i64)) by simpa using hod6)
            have HOH6 := Lib.hid hoh6
            have HDIS6 := Lib.hid hdis6
            have HB6' := Lib.hid hb6'
            clear hal hoh6 hod6 hb6' hdis6 hgr6 hfr6 hnw
            go_wp2_with fail
            exact ⟨⟨k + 1, ds ++ [x], hs ++ [m], hlt, by simp, by simp [hdl], hlen4, big_snoc HBD.out (by omega), HBH4.out, HOD6.out, HOH6.out, HDIS6.out, HB1.out.trans (HB6'.out.mono hbs1), HB6'.out⟩, by simp [intOf]; omega⟩
      · obtain rfl : k = funs.length := by omega
        have e1 : (funs.length : Int) - 1 = ((funs.length - 1 : Nat) : Int) := by omega
        obtain ⟨b1, o1, c1, hx1, hb1, hy1⟩ := int_cell (own_ints HOD.out hdl) (j := funs.length - 1) (by omega)
        obtain ⟨b2, o2, c2, hx2, hb2, hy2⟩ := int_cell (own_ints HOH.out hhl) (j := funs.length - 1) (by omega)
        injection hx1 with hx1 e5 e6
        injection hx2 with hx2 e7 e8
        subst hx1 hx2
        clear e5 e6 e7 e8
        generalize ds[funs.length - 1] = x at hy1
        generalize hs[funs.length - 1] = y at hy2
        go_wp2_with fail
        refine region_qtail 10 (by kernel_rfl) (by kernel_rfl) ?_
        simp only [List.take_succ_cons, List.take_zero, List.drop_succ_cons, List.drop_zero]
        repeat (go_big_quiet_step (fail))
        refine wpQuiet_nil ?_
        intro kq
        go_wp2_with fail
        all_goals (go_ret; exact ⟨_, rfl, Below.drewN' HB.out _⟩)
end Go.Proofs.YtoaajpppbjaomaaGreatDoor
/- What a flat program and a script read as. -/
namespace Go.Proofs.YtoaajpppbjaomaaGreatDoor
open Go.RowKit
section
variable {H : Type} {enc : TypeId × Value → H} {W : World} {base : Nat} {spare : Nat → Bool} {held : Bool}
abbrev Reads (enc : TypeId × Value → H) (W : World) (base : Nat) (spare : Nat → Bool) (held : Bool) (t : TypeId) (cs : List Value) (x : DataW H × List MemPlace) : Prop := ∃ fuel, DataW.trod enc Tryz.prog W base spare held fuel t cs = some x
theorem bulk_pos (d : DataW H) : 1 ≤ Rows.uptoBulk d := by
  cases d with
  | lit l => cases l <;> simp [Rows.uptoBulk]
  | nil => simp [Rows.uptoBulk]
  | ptr d => simp [Rows.uptoBulk]
  | slice elems spare => simp [Rows.uptoBulk]
  | agg parts => simp [Rows.uptoBulk]
  | iface t d => simp [Rows.uptoBulk]
  | map entries => simp [Rows.uptoBulk]
  | held h => simp [Rows.uptoBulk]
theorem bulk_mem {d : DataW H} {l : List (DataW H)} (h : d ∈ l) : Rows.uptoBulk d ≤ Rows.uptoBulkAll l := by
  induction l with
  | nil => cases h
  | cons x r ih =>
    simp only [Rows.uptoBulkAll]
    cases List.mem_cons.1 h with
    | inl e => subst e; omega
    | inr e => have := ih e; omega
theorem bulk_len (l : List (DataW H)) : l.length ≤ Rows.uptoBulkAll l := by
  induction l with
  | nil => simp [Rows.uptoBulkAll]
  | cons x r ih => have := bulk_pos x; simp only [Rows.uptoBulkAll, List.length_cons]; omega
theorem addr_add2 (a : Addr) (i j : Nat) : (a.add i).add j = a.add (i + j) := by
  unfold Addr.add
  by_cases hi : i = 0 <;> by_cases hj : j = 0 <;> simp [hi, hj, Nat.add_assoc]
theorem list_ex {α : Type} {p : Nat → α → Prop} : ∀ (n : Nat), (∀ i, i < n → ∃ a, p i a) → ∃ l : List α, l.length = n ∧ ∀ i a, l[i]? = some a → p i a
  | 0, _ => ⟨[], rfl, fun i a h => by simp at h⟩
  | n + 1, h => by
    obtain ⟨l, h1, h2⟩ := list_ex n (fun i hi => h i (by omega))
    obtain ⟨a, ha⟩ := h n (by omega)
    refine ⟨l ++ [a], by simp [h1], fun i b hb => ?_⟩
    rcases Nat.lt_or_ge i l.length with hl | hl
    · rw [List.getElem?_append_left hl] at hb
      exact h2 i b hb
    · rw [List.getElem?_append_right hl] at hb
      obtain rfl : i = n := by
        rcases Nat.eq_zero_or_pos (i - l.length) with h0 | h0
        · omega
        · rw [List.getElem?_eq_none (by simp; omega)] at hb; cases hb
      rw [h1, Nat.sub_self] at hb
      simp at hb
      subst hb
      exact ha
theorem read_slice {α : Type} {R : α → List Value → Prop} {t e : TypeId} {sz n : Nat} {cs : List Value} {x : DataW H × List MemPlace} (ht : Tryz.prog.underlying t = some (.slice e)) (hc : Tryz.prog.cellsOf e = sz) (hsz : 0 < sz)
    (h : Reads enc W base spare held t cs x) (hb : Rows.uptoBulk x.1 ≤ n + 1) (hn : n ≤ 1048576) (hel : ∀ cs' y, Reads enc W base spare held e cs' y → Rows.uptoBulk y.1 ≤ n → ∃ a, R a cs') : ∃ v xs, cs = [v] ∧ RepV R sz W v xs := by
  obtain ⟨fuel, h⟩ := h
  rcases DataW.trod_slice ht h with ⟨rfl, rfl⟩ | ⟨a, len, cap, elems, rest, m, -, rfl, rfl, hbl, hlc, hcm, hlen, hget, -, -⟩
  · exact ⟨_, [], rfl, ⟨by simp, none, 0, rfl, by simp, by omega, fun h => by simp at h⟩⟩
  · simp only [Rows.uptoBulk] at hb
    have hl := bulk_len (elems.map (·.1))
    simp only [List.length_map] at hl
    have hex : ∀ i, i < len → ∃ p : α × List Value, p.2.length = sz ∧ R p.1 p.2 ∧ ∀ k, k < sz → W.cell? ((a.add (i * sz)).add k) = p.2[k]? := by
      intro i hi
      have hg := hget i hi
      rw [List.getElem?_eq_getElem (by omega)] at hg
      obtain ⟨cs', h1, h2⟩ := Option.bind_eq_some_iff.1 hg
      obtain ⟨_, hl', hcell⟩ := World.cells?_some h1
      have hmem : (elems[i]'(by omega)).1 ∈ elems.map (·.1) := List.mem_map.2 ⟨_, List.getElem_mem _, rfl⟩
      have hbm := bulk_mem hmem
      obtain ⟨x', hx'⟩ := hel cs' _ ⟨m, h2⟩ (by omega)
      rw [hc] at hl' hcell
      exact ⟨(x', cs'), hl', hx', hcell⟩
    obtain ⟨l, hll, hlp⟩ := list_ex len hex
    obtain ⟨b, o, sp⟩ := a
    refine ⟨_, l.map (·.1), rfl, by simp; omega, _, cap, by simp [hll]; rfl, by simp [hll]; exact hlc, by unfold maxLen at hcm; omega, fun h0 => ?_⟩
    simp [hll] at h0
    have hsp : sp = none ∧ b < W.heap.size := by
      have hl0 : 0 < l.length := by omega
      obtain ⟨q1, q2, q3⟩ := hlp 0 _ (List.getElem?_eq_getElem hl0)
      have h3 := q3 0 hsz
      rw [List.getElem?_eq_getElem (by omega)] at h3
      have hs := World.cell?_spot h3
      have hs2 := World.block_lt_of_cell? W _ h3
      simp [Addr.add] at hs hs2
      exact ⟨hs, hs2⟩
    obtain ⟨rfl, hbW⟩ := hsp
    refine ⟨b, o, rfl, hbW, fun j x hj => ?_⟩
    rw [List.getElem?_map] at hj
    obtain ⟨p, hp, rfl⟩ := Option.map_eq_some_iff.1 hj
    obtain ⟨q1, q2, q3⟩ := hlp j p hp
    refine ⟨p.2, q1, q2, fun i v hv => ?_⟩
    have hi : i < sz := by rw [← q1]; exact (List.getElem?_eq_some_iff.1 hv).1
    have := (q3 i hi).trans hv
    rw [addr_add2] at this
    rw [← this, Nat.add_assoc]
    generalize j * sz + i = k
    rcases Nat.eq_zero_or_pos k with rfl | hk
    · simp [Addr.add]
    · have hk0 : k ≠ 0 := by omega
      simp [Addr.add, hk0]
theorem read_int {t : TypeId} {cs : List Value} {x : DataW H × List MemPlace} (ht : Tryz.prog.underlying t = some (.int .i64)) (h : Reads enc W base spare held t cs x) : ∃ n, cs = [.int .i64 n] ∧ I64 n := by
  obtain ⟨fuel, h⟩ := h
  obtain ⟨n, h1, -, h3⟩ := DataW.trod_int ht h
  refine ⟨n, h1, ?_⟩
  simp only [Lit.wf, Bool.and_eq_true, decide_eq_true_eq] at h3
  exact h3
theorem read_string {t : TypeId} {cs : List Value} {x : DataW H × List MemPlace} (ht : Tryz.prog.underlying t = some .string) (h : Reads enc W base spare held t cs x) (hb : Rows.uptoBulk x.1 ≤ 1048577) : ∃ s : ByteArray, cs = [.string s] ∧ s.size ≤ 1048576 := by
  obtain ⟨fuel, h⟩ := h
  obtain ⟨s, h1, rfl, -⟩ := DataW.trod_string ht h
  refine ⟨s, h1, ?_⟩
  simp only [Rows.uptoBulk] at hb
  have e : s.data.toList.length = s.size := by rw [Array.length_toList]; rfl
  omega
end
end Go.Proofs.YtoaajpppbjaomaaGreatDoor
/- The runner's Step: the deferred closure that recovers, and the walk. -/
namespace Go.Proofs.YtoaajpppbjaomaaGreatDoor
open Go.RowKit
set_option maxRecDepth 100000 in
set_option maxHeartbeats 1000000 in
theorem catch_trap (a b c R : Nat) (x : Value) (y : Int) (t : Bool) (older : List PanicEntry) (w : World) (ha : w.cell? ⟨a, 0, none⟩ = some (.pointer (some ⟨R, 0, none⟩))) (hb : w.cell? ⟨b, 0, none⟩ = some x) (hbz : w.frozen? ⟨b, 0, none⟩ = false)
    (hc : w.cell? ⟨c, 0, none⟩ = some (.int .i64 y)) (hcz : w.frozen? ⟨c, 0, none⟩ = false) (hR : w.cell? ⟨R, 2, none⟩ = some (.bool t)) (hRz : w.frozen? ⟨R, 2, none⟩ = false) (hbc : b ≠ c) :
    CallsD Tryz.prog 28 #[.pointer (some ⟨a, 0, none⟩), .pointer (some ⟨b, 0, none⟩), .pointer (some ⟨c, 0, none⟩)] (.panicking (trapE :: older)) w fun e u' w' =>
      e = .returned (.tuple #[]) ∧ u' = .panicking ({ trapE with recovered := true } :: older) ∧ w' = (((w.setCell ⟨R, 2, none⟩ (.bool true)).setCell ⟨b, 0, none⟩ (.slice none 0 0)).setCell ⟨c, 0, none⟩ (.int .i64 12)).alloc (Obj.cells #[] 67) := by
  refine callsD_of_wpS Tryz.func28 rfl fun c₀ cs hu => ?_
  apply wpS_seq
  apply wpS_region
  simp [wpOpsS, go_sem, recoverD, hu, Tryz.ntmps28, Exit.thenS, trapE]
  refine wpS_of_wp ?_
  have ht : ∀ p1 p2 p3 v : Value, #[p1, p2, p3] ++ (((Array.replicate 17 undef).setIfInBounds 3 v).setIfInBounds 0 v) = #[p1, p2, p3, v, undef, undef, v, undef, undef, undef, undef, undef, undef, undef, undef, undef, undef, undef, undef, undef] := by intro _ _ _ _; kernel_rfl
  rw [ht]
  clear ht hu
  have hal := World.block_lt_of_cell? w _ ha
  have hbl := World.block_lt_of_cell? w _ hb
  have hcl := World.block_lt_of_cell? w _ hc
  have hRl := World.block_lt_of_cell? w _ hR
  have hcb : c ≠ b := Ne.symm hbc
  simp only at hal hbl hcl hRl
  have hta : (Instr.typeAssert (Value.iface 67 (Value.agg #[])) 20 67 true).run Tryz.prog w = .ok (.tuple #[.agg #[], .bool true]) w := by kernel_rfl
  go_wp2_with fail
  simp [bodyPostS, results, Tryz.results28]
set_option maxRecDepth 100000 in
set_option maxHeartbeats 1000000 in
theorem catch_none (p1 p2 p3 : Value) (w : World) :
    CallsD Tryz.prog 28 #[p1, p2, p3] .returning w fun e u' w' => e = .returned (.tuple #[]) ∧ u' = .returning ∧ w' = w := by
  refine callsD_of_wpS Tryz.func28 rfl fun c₀ cs hu => ?_
  apply wpS_seq
  apply wpS_region
  simp [wpOpsS, go_sem, recoverD, hu, Tryz.ntmps28, Exit.thenS]
  refine wpS_of_wp ?_
  have ht : ∀ p1 p2 p3 v : Value, #[p1, p2, p3] ++ (((Array.replicate 17 undef).setIfInBounds 3 v).setIfInBounds 0 v) = #[p1, p2, p3, v, undef, undef, v, undef, undef, undef, undef, undef, undef, undef, undef, undef, undef, undef, undef, undef] := by intro _ _ _ _; kernel_rfl
  rw [ht]
  clear ht
  go_wp2_with fail
  cases c₀
  simp_all [bodyPostS, results, Tryz.results28]
theorem three_new (w : World) (o1 o2 o3 : Obj) (w3 : World) (hw : w3 = ((w.alloc o1).alloc o2).alloc o3) :
    Below w.heap.size w w3 ∧ w3.heap[w.heap.size]? = some o1 ∧ w3.heap[w.heap.size + 1]? = some o2 ∧ w3.heap[w.heap.size + 1 + 1]? = some o3 := by
  have s1 : (w.alloc o1).heap.size = w.heap.size + 1 := by simp
  have s2 : ((w.alloc o1).alloc o2).heap.size = w.heap.size + 1 + 1 := by simp
  subst hw
  refine ⟨below_three _ _ _ _, ?_, ?_, ?_⟩
  · rw [heap_alloc_lt (by rw [s2]; omega), heap_alloc_lt (by rw [s1]; omega)]; exact heap_alloc_at _ _
  · rw [heap_alloc_lt (by rw [s2]; omega), ← s1]; exact heap_alloc_at _ _
  · rw [← s2]; exact heap_alloc_at _ _
section
variable {funs : List FN} {r : RS} {ins : List Int} {f : FN} (hf : funs.getD (lastF funs) default = f)
include hf
theorem stepF_len (h : ins.length ≠ f.params.length) : stepF funs r ins = (r, [], 1) := by
  unfold stepF
  rw [hf, if_pos h]
theorem stepF_trapped (h : ins.length = f.params.length) (ht : r.trapped = true) : stepF funs r ins = (r, [], 13) := by
  unfold stepF
  rw [hf, if_neg (by simpa using h), if_pos ht]
theorem stepF_go (h : ins.length = f.params.length) (ht : r.trapped = false) : stepF funs r ins =
    match instF funs funs.length (lastF funs) 0 ins r.mem 0 with
    | (none, mem, cnt) => ({ mem := mem, trapped := true, count := cnt }, [], 12)
    | (some l, mem, cnt) => ({ mem := mem, trapped := false, count := cnt }, l, 0) := by
  unfold stepF
  rw [hf, if_neg (by simpa using h), if_neg (by simp [ht])]
  rfl
end
theorem two_set {w : World} {C1 C2 : Nat} {a0 b0 : Value} {t1 t2 : TypeId} (h1 : w.heap[C1]? = some (.cells #[a0] t1 (0, 0))) (h2 : w.heap[C2]? = some (.cells #[b0] t2 (0, 0))) (hne : C1 ≠ C2) (a b : Value) (w5 : World)
    (hw : w5 = (w.setCell ⟨C1, 0, none⟩ a).setCell ⟨C2, 0, none⟩ b) :
    w5.cell? ⟨C1, 0, none⟩ = some a ∧ w5.cell? ⟨C2, 0, none⟩ = some b ∧ Keep [C1, C2] w w5 := by
  have y1 : (w.setCell ⟨C1, 0, none⟩ a).heap[C1]? = some (.cells #[a] t1 (0, 0)) := by rw [heap_setCell_eq h1]; rfl
  have y2 : w5.heap[C1]? = some (.cells #[a] t1 (0, 0)) := by rw [hw]; exact (heap_setCell_ne 0 b hne).trans y1
  have y3 : w5.heap[C2]? = some (.cells #[b] t2 (0, 0)) := by rw [hw, heap_setCell_eq ((heap_setCell_ne 0 a (Ne.symm hne)).trans h2)]; rfl
  refine ⟨cellB' y2 0 rfl, cellB' y3 0 rfl, ?_⟩
  rw [hw]
  exact ((Keep.refl _ _).setCell (.inl (by simp)) _).setCell (.inl (by simp)) _
theorem MemSt.kept {W w w' : World} {R M : Nat} {fv : Value} {mem : Mem} {tr : Bool} {cnt : Int} (h : MemSt W w R M fv mem tr cnt) {S : List Nat} (hk : Keep S w w') (hS : ∀ x, x ∈ S → W.heap.size ≤ x ∧ x ≠ R ∧ x ≠ M) : MemSt W w' R M fv mem tr cnt :=
  { h with
    below := hk.below h.below h.below.size (fun x hx => (hS x hx).1)
    hR := (hk.block R (lt_of_block h.hR) (fun hm => (hS R hm).2.1 rfl)).trans h.hR
    hM := (hk.block M (lt_of_block h.hM) (fun hm => (hS M hm).2.2 rfl)).trans h.hM }
theorem Ints.kept2 {w w' : World} {v : Value} {l : List Int} (h : Ints w v l) {S : List Nat} (hk : Keep S w w') (hS : ∀ x, x ∈ S → ∀ o n c, 0 < n → v ≠ .slice (some ⟨x, o, none⟩) n c) : Ints w' v l := by
  obtain ⟨A, c, rfl, h⟩ := h
  refine ⟨A, c, rfl, fun j x hj => ?_⟩
  obtain ⟨b, o, rfl, h1, h2⟩ := h j x hj
  refine ⟨b, o, rfl, Nat.lt_of_lt_of_le h1 hk.size, ?_⟩
  rw [World.cell?_of_block (w := w) (w' := w') (hk.block b h1 (fun hm => hS b hm _ _ _ (by have := (List.getElem?_eq_some_iff.1 hj).1; omega) rfl)), h2]
theorem own_keep {w w' : World} {B : Nat} {e : TypeId} {sz : Nat} {v : Value} {n : Nat} {xs : List Value} (h : w.ownsRow B e sz v n xs) {S : List Nat} (hk : Keep S w w') (hS : ∀ x, x ∈ S → x < B) : w'.ownsRow B e sz v n xs := by
  refine ⟨h.1, ?_⟩
  rcases h.2 with h2 | ⟨g, cap, cur, hv, hg, hh, r⟩
  · exact .inl h2
  · exact .inr ⟨g, cap, cur, hv, hg, by rw [hk.block g (lt_of_block hh) (fun hm => by have := hS g hm; omega)]; exact hh, r⟩
structure RunStep (W : World) (R M : Nat) (fv : Value) (r : RS × List Int × Int) (w : World) (e : Ending) (w' : World) : Prop where
  ret : ∃ v, e = .returned (.tuple #[v, .int .i64 r.2.2]) ∧ w'.ownsRow w.heap.size 2 1 v r.2.1.length (r.2.1.map (Value.int .i64))
  keep : Keep [R, M] w w'
  st : MemSt W w' R M fv r.1.mem r.1.trapped r.1.count
  memI : r.1.trapped = false → ∀ v, some v ∈ r.1.mem → I64 v
set_option maxRecDepth 100000 in
set_option maxHeartbeats 2000000 in
theorem run_step {W w : World} {R M : Nat} {fv : Value} {funs : List FN} {nf : Nat} (hrep : RepV (RepF W nf) 6 W fv funs) (hr : RightP funs) (h0 : 0 < funs.length) {r : RS}
    (h : MemSt W w R M fv r.mem r.trapped r.count) (hmI : r.trapped = false → ∀ v, some v ∈ r.mem → I64 v) {ins : List Int} {vi : Value} (hin : Ints w vi ins) (hinI : ∀ v, v ∈ ins → I64 v) (_hil : ins.length ≤ 1048576) (hne : ∀ x, x ∈ [R, M] → ∀ o n c, 0 < n → vi ≠ .slice (some ⟨x, o, none⟩) n c) :
    Calls Tryz.prog 12 #[.pointer (some ⟨R, 0, none⟩), vi] w (RunStep W R M fv (stepF funs r ins) w) := by
  obtain ⟨A, c, rfl, hc1, hc2, hfl⟩ := hrep.sl
  have hlast : lastF funs < funs.length := by unfold lastF; omega
  generalize hf : funs.getD (lastF funs) default = f
  have HF := Lib.hid hf
  have HH := Lib.hid h
  have HIN := Lib.hid hin
  have hRl := lt_of_block h.hR
  obtain ⟨Ai, ci, rfl, -⟩ := hin
  clear h hf
  have hmf : ∀ (fn : Fn) (first cap : Array Value) (w : World), (Instr.makeFunc fn first cap).run Tryz.prog w = .ok (.func fn first cap) w := fun _ _ _ _ => rfl
  go_enter_defers Tryz.func12, Tryz.ntmps12
  go_wp2_with fail
  obtain ⟨w3, hw3⟩ : ∃ w3, w3 = (((w.alloc (Obj.cells #[Value.pointer (some ⟨R, 0, none⟩)] 28)).alloc (Obj.cells #[Value.slice none 0 0] 35)).alloc (Obj.cells #[Value.int IntKind.i64 0] 29)) := ⟨_, rfl⟩
  rw [← hw3]
  obtain ⟨hb3, hx0, hx1, hx2⟩ := three_new _ _ _ _ _ hw3
  clear hw3
  generalize hB1 : w.heap.size + 1 + 1 = C2 at hx2 ⊢
  generalize hB0 : w.heap.size + 1 = C1 at hx1 hB1 ⊢
  have h3 := HH.out.later hb3
  have H3 := Lib.hid h3
  obtain ⟨b, o, c', Ap, cp, Ar, cr, Af, cf, Aq, cq, Ab, cb, hsl, -, hbW, k0, k1, k2, k3, k4, k5, r1, r2, r3, r4, r5⟩ := fn_cells hrep h3.below hlast HF.out
  rw [show lastF funs = funs.length - 1 from rfl] at k0 k1 k2 k3 k4 k5
  injection hsl with e1 e2 e3
  subst e1 e3
  have hp := r1.1
  have c0 := h3.c0
  have c2 := h3.c2
  have c3 := h3.c3
  have x0 := cellB' hx0 0 rfl
  have hRl3 := lt_of_block h3.hR
  have hbl3 : b < w3.heap.size := Nat.lt_of_lt_of_le hbW h3.below.size
  have hl0 := lt_of_block hx0
  have hl1 := lt_of_block hx1
  have hl2 := lt_of_block hx2
  have HB3 := Lib.hid hb3
  have HX0 := Lib.hid hx0
  have HX1 := Lib.hid hx1
  have HX2 := Lib.hid hx2
  clear hb3 hx0 hx1 hx2 h3 e2
  by_cases hlen : ins.length = f.params.length
  · have d1 : ((ins.length : Int) != (f.params.length : Int)) = false := by simp [hlen]
    refine region_qtail 17 (by kernel_rfl) (by kernel_rfl) ?_
    simp only [List.take_succ_cons, List.take_zero, List.drop_succ_cons, List.drop_zero]
    repeat (go_big_quiet_step ((go_at_call 27; exact Calls.quiet_of_same (last_any (H3.out.later (Below.drewN' (Below.refl _ _) _)) rfl h0 hfl))))
    refine wpQuiet_nil ?_
    intro kq
    have hQ : (w3.drewN kq).heap = w3.heap := rfl
    have H4 := Lib.hid (H3.out.later (Below.drewN' (Below.refl _ _) kq))
    have HB4 := Lib.hid (Below.drewN' HB3.out kq)
    have HX0' := Lib.hid (hQ ▸ HX0.out : (w3.drewN kq).heap[w.heap.size]? = _)
    have HX1' := Lib.hid (hQ ▸ HX1.out : (w3.drewN kq).heap[C1]? = _)
    have HX2' := Lib.hid (hQ ▸ HX2.out : (w3.drewN kq).heap[C2]? = _)
    clear c0 c2 c3 x0 k0 k1 k2 k3 k4 k5 hl0 hl1 hl2 hQ HX0 HX1 HX2 H3 HB3 hRl3 hbl3
    generalize w3.drewN kq = w4 at H4 HB4 HX0' HX1' HX2' ⊢
    have hx0 := HX0'.out
    have hx1 := HX1'.out
    have hx2 := HX2'.out
    have hl0 := lt_of_block hx0
    have hl1 := lt_of_block hx1
    have hl2 := lt_of_block hx2
    have x0 := cellB' hx0 0 rfl
    have x1 := cellB' hx1 0 rfl
    have x2 := cellB' hx2 0 rfl
    have z1 := frozB hx1 0
    have z2 := frozB hx2 0
    have c2 := H4.out.c2
    have c3 := H4.out.c3
    have hRl4 := lt_of_block H4.out.hR
    clear hx0 hx1 hx2
    cases htr : r.trapped with
    | true =>
      rw [htr] at c2
      have HS := Lib.hid (stepF_trapped HF.out hlen htr)
      go_wp2_with fail
      obtain ⟨w5, hw5⟩ : ∃ w5, w5 = (w4.setCell ⟨C1, 0, none⟩ (Value.slice none 0 0)).setCell ⟨C2, 0, none⟩ (Value.int IntKind.i64 13) := ⟨_, rfl⟩
      rw [← hw5]
      obtain ⟨y1, y2, hk⟩ := two_set HX1'.out HX2'.out (by omega) _ _ w5 hw5
      clear hw5
      simp [bodyPostD, Leaves, results, Tryz.results12, go_sem, y1, y2]
      rw [HS.out]
      have h5 := H4.out.kept hk (fun x hx => by
        have := H4.out.geR
        have := HB4.out.size
        have := HH.out.below.size
        have := lt_of_block HH.out.hM
        simp only [List.mem_cons, List.mem_nil_iff, or_false] at hx
        rcases hx with rfl | rfl <;> omega)
      exact ⟨⟨_, rfl, World.ownsRow_nil _ _ _ _⟩, (Keep.of_below HB4.out).old hk (fun x hx => by
        simp only [List.mem_cons, List.mem_nil_iff, or_false] at hx
        rcases hx with rfl | rfl <;> exact .inr (by omega)), h5, hmI⟩
    | false =>
      rw [htr] at c2
      have z3 := frozB H4.out.hR 3
      have HS := Lib.hid (stepF_go HF.out hlen htr)
      go_wp2_with fail
      obtain ⟨h5, hk5⟩ := H4.out.put3 0
      have hg0 : (w4.setCell ⟨R, 3, none⟩ (.int .i64 0)).heap[w.heap.size]? = _ := (heap_setCell_ne 3 _ (by omega)).trans HX0'.out
      have hg1 : (w4.setCell ⟨R, 3, none⟩ (.int .i64 0)).heap[C1]? = _ := (heap_setCell_ne 3 _ (by omega)).trans HX1'.out
      have hg2 : (w4.setCell ⟨R, 3, none⟩ (.int .i64 0)).heap[C2]? = _ := (heap_setCell_ne 3 _ (by omega)).trans HX2'.out
      rw [htr] at h5
      have H5 := Lib.hid h5
      have HK5 := Lib.hid ((Keep.of_below (S := [R, M]) HB4.out).trans hk5)
      have HG0 := Lib.hid hg0
      have HG1 := Lib.hid hg1
      have HG2 := Lib.hid hg2
      clear c2 c3 z1 z2 z3 x0 x1 x2 hl0 hl1 hl2 hRl4 h5 hk5 hg0 hg1 hg2 HX0' HX1' HX2' H4 HB4
      generalize w4.setCell ⟨R, 3, none⟩ (.int .i64 0) = w5 at H5 HK5 HG0 HG1 HG2 ⊢
      have c0 := H5.out.c0
      have x0 := cellB' HG0.out 0 rfl
      obtain ⟨b', o', c'', Ap, cp, Ar, cr, Af, cf, Aq, cq, Ab, cb, hsl, -, hbW', k0, k1, k2, k3, k4, k5, r1, r2, r3, r4, r5⟩ := fn_cells hrep H5.out.below hlast HF.out
      rw [show lastF funs = funs.length - 1 from rfl] at k0 k1 k2 k3 k4 k5
      injection hsl with e1 e2 e3
      injection e1 with e1
      injection e1 with e1 e4
      subst e1 e3 e4
      have hRl5 := lt_of_block H5.out.hR
      have hb5 : b < w5.heap.size := Nat.lt_of_lt_of_le hbW H5.out.below.size
      refine region_qtail 10 (by kernel_rfl) (by kernel_rfl) ?_
      simp only [List.take_succ_cons, List.take_zero, List.drop_succ_cons, List.drop_zero]
      repeat (go_big_quiet_step ((go_at_call 27; exact Calls.quiet_of_same (last_any (H5.out.later (Below.drewN' (Below.refl _ _) _)) rfl h0 hfl))))
      refine wpQuiet_nil ?_
      intro kr
      clear c0 x0 k0 k1 k2 k3 k4 k5
      have hQ : (w5.drewN kr).heap = w5.heap := rfl
      have H6 := Lib.hid (H5.out.later (Below.drewN' (Below.refl _ _) kr))
      have HK6 := Lib.hid (HK5.out.trans (Keep.of_below (Below.drewN' (Below.refl _ _) kr)))
      have HG0' := Lib.hid (hQ ▸ HG0.out : (w5.drewN kr).heap[w.heap.size]? = _)
      have HG1' := Lib.hid (hQ ▸ HG1.out : (w5.drewN kr).heap[C1]? = _)
      have HG2' := Lib.hid (hQ ▸ HG2.out : (w5.drewN kr).heap[C2]? = _)
      clear hQ HG0 HG1 HG2 H5 HK5 hRl5 hb5
      generalize w5.drewN kr = w6 at H6 HK6 HG0' HG1' HG2' ⊢
      go_wp2_with fail
      have hI := instant_any hrep hr (fun k hk => hr.calls k hk) funs.length funs.length (Nat.le_refl _) (Nat.le_refl _) (lastF funs) w6 0 r.mem 0 ins _ f Ap Ar Af Aq Ab cp cr cf cq cb hlast HF.out r1 r2 r5 H6.out (Nat.zero_le _) (hmI htr) (HIN.out.kept2 HK6.out hne) hinI hlen
      rw [show ((0 : Nat) : Int) = 0 from rfl, hlen] at hI
      refine hI.mono ?_
      clear hI
      intro e7 w7 hP
      have hHS := HS.out
      generalize hI : instF funs funs.length (lastF funs) 0 ins r.mem 0 = rr at hP hHS
      clear hI
      obtain ⟨ro, mem', cnt'⟩ := rr
      have hs6 := HK6.out.size
      have hRM := H6.out
      have gx0 := (hP.keep.block w.heap.size (lt_of_block HG0'.out) (by have := HH.out.geR; have := lt_of_block HH.out.hM; simp; omega)).trans HG0'.out
      have gx1 := (hP.keep.block C1 (lt_of_block HG1'.out) (by have := lt_of_block HH.out.hM; simp; omega)).trans HG1'.out
      have gx2 := (hP.keep.block C2 (lt_of_block HG2'.out) (by have := lt_of_block HH.out.hM; simp; omega)).trans HG2'.out
      have hkA := HK6.out.trans hP.keep
      have HX0 := Lib.hid gx0
      have HX1 := Lib.hid gx1
      have HX2 := Lib.hid gx2
      have HKA := Lib.hid hkA
      have hl1 := lt_of_block gx1
      have hl2 := lt_of_block gx2
      have hMl := lt_of_block HH.out.hM
      cases ro with
      | none =>
        obtain ⟨rfl, hm⟩ := hP.no rfl
        have HM7 := Lib.hid hm
        have HHS := Lib.hid hHS
        clear hP hHS hm hRM
        refine leaves_cons (f := 28) (args := #[.pointer (some ⟨w.heap.size, 0, none⟩), .pointer (some ⟨C1, 0, none⟩), .pointer (some ⟨C2, 0, none⟩)]) (by simp) (by simp [go_sem]) ?_
        refine (catch_trap w.heap.size C1 C2 R _ _ _ [] w7 (cellB' HX0.out 0 rfl) (cellB' HX1.out 0 rfl) (frozB HX1.out 0) (cellB' HX2.out 0 rfl) (frozB HX2.out 0) HM7.out.c2 (frozB HM7.out.hR 2) (by omega)).mono ?_
        rintro e u' w8 ⟨rfl, rfl, rfl⟩
        obtain ⟨h8, hk8⟩ := HM7.out.put2 true
        have g1 : (w7.setCell ⟨R, 2, none⟩ (.bool true)).heap[C1]? = _ := (heap_setCell_ne 2 _ (by omega)).trans HX1.out
        have g2 : (w7.setCell ⟨R, 2, none⟩ (.bool true)).heap[C2]? = _ := (heap_setCell_ne 2 _ (by omega)).trans HX2.out
        obtain ⟨w9, hw9⟩ : ∃ w9, w9 = ((w7.setCell ⟨R, 2, none⟩ (.bool true)).setCell ⟨C1, 0, none⟩ (Value.slice none 0 0)).setCell ⟨C2, 0, none⟩ (Value.int IntKind.i64 12) := ⟨_, rfl⟩
        rw [← hw9]
        obtain ⟨y1, y2, hk⟩ := two_set g1 g2 (by omega) _ _ w9 hw9
        clear hw9
        have hs9 := hk.size
        have hs8 := hk8.size
        have hs7 := HKA.out.size
        have hk10 : Keep [C1, C2] w9 (w9.alloc (Obj.cells #[] 67)) := (Keep.refl _ _).alloc _
        have y1' : (w9.alloc (Obj.cells #[] 67)).cell? ⟨C1, 0, none⟩ = some (Value.slice none 0 0) := (World.cell?_of_block (w := w9) (heap_alloc_lt (by simp; omega))).trans y1
        have y2' : (w9.alloc (Obj.cells #[] 67)).cell? ⟨C2, 0, none⟩ = some (Value.int IntKind.i64 12) := (World.cell?_of_block (w := w9) (heap_alloc_lt (by simp; omega))).trans y2
        have hk11 := hk.trans hk10
        generalize w9.alloc (Obj.cells #[] 67) = wa at y1' y2' hk11 ⊢
        simp [Leaves, settle, results, Tryz.results12, go_sem, y1', y2']
        rw [HHS.out]
        have hgW := HH.out.below.size
        have hgR := HH.out.geR
        exact ⟨⟨_, rfl, World.ownsRow_nil _ _ _ _⟩, (HKA.out.trans hk8).old hk11 (fun x hx => by
          simp only [List.mem_cons, List.mem_nil_iff, or_false] at hx
          rcases hx with rfl | rfl <;> exact .inr (by omega)), h8.kept hk11 (fun x hx => by
          simp only [List.mem_cons, List.mem_nil_iff, or_false] at hx
          rcases hx with rfl | rfl <;> omega), fun h => by cases h⟩
      | some out =>
        obtain ⟨⟨v7, rfl, hown⟩, hm, -, hmI7, -⟩ := hP.yes out rfl
        have HM7 := Lib.hid hm
        have HHS := Lib.hid hHS
        have HOWN := Lib.hid hown
        have x1 := cellB' gx1 0 rfl
        have x2 := cellB' gx2 0 rfl
        have z1 := frozB gx1 0
        have z2 := frozB gx2 0
        have hl16 := lt_of_block HG1'.out
        have hl26 := lt_of_block HG2'.out
        obtain ⟨A7, c7, hv7, -⟩ := ints_of_own hown
        subst hv7
        clear hP hHS hm hRM hown gx0 gx1 gx2
        go_wp2_with fail
        refine leaves_cons (f := 28) (args := #[.pointer (some ⟨w.heap.size, 0, none⟩), .pointer (some ⟨C1, 0, none⟩), .pointer (some ⟨C2, 0, none⟩)]) (by simp) (by simp [go_sem]) ?_
        refine (catch_none _ _ _ _).mono ?_
        rintro e u' w8 ⟨rfl, rfl, rfl⟩
        obtain ⟨w9, hw9⟩ : ∃ w9, w9 = (w7.setCell ⟨C1, 0, none⟩ (Value.slice A7 out.length c7)).setCell ⟨C2, 0, none⟩ (Value.int IntKind.i64 0) := ⟨_, rfl⟩
        rw [← hw9]
        obtain ⟨y1, y2, hk⟩ := two_set HX1.out HX2.out (by omega) _ _ w9 hw9
        clear hw9
        simp [Leaves, settle, results, Tryz.results12, go_sem, y1, y2]
        rw [HHS.out]
        have hgW := HH.out.below.size
        have hgR := HH.out.geR
        exact ⟨⟨_, rfl, own_weaken (own_keep HOWN.out hk (fun x hx => by
          simp only [List.mem_cons, List.mem_nil_iff, or_false] at hx
          rcases hx with rfl | rfl <;> omega)) hs6⟩, HKA.out.old hk (fun x hx => by
          simp only [List.mem_cons, List.mem_nil_iff, or_false] at hx
          rcases hx with rfl | rfl <;> exact .inr (by omega)), HM7.out.kept hk (fun x hx => by
          simp only [List.mem_cons, List.mem_nil_iff, or_false] at hx
          rcases hx with rfl | rfl <;> omega), fun _ => hmI7⟩
  · have d1 : ((ins.length : Int) != (f.params.length : Int)) = true := by simpa using (by omega : ¬ (ins.length : Int) = f.params.length)
    have HS := Lib.hid (stepF_len (r := r) HF.out hlen)
    have HMI := Lib.hid hmI
    clear hmI
    refine region_qtail 17 (by kernel_rfl) (by kernel_rfl) ?_
    simp only [List.take_succ_cons, List.take_zero, List.drop_succ_cons, List.drop_zero]
    repeat (go_big_quiet_step ((go_at_call 27; exact Calls.quiet_of_same (last_any (H3.out.later (Below.drewN' (Below.refl _ _) _)) rfl h0 hfl))))
    refine wpQuiet_nil ?_
    intro kq
    have hQ : (w3.drewN kq).heap = w3.heap := rfl
    have H4 := Lib.hid (H3.out.later (Below.drewN' (Below.refl _ _) kq))
    have HB4 := Lib.hid (Below.drewN' HB3.out kq)
    have HX1' := Lib.hid (hQ ▸ HX1.out : (w3.drewN kq).heap[C1]? = _)
    have HX2' := Lib.hid (hQ ▸ HX2.out : (w3.drewN kq).heap[C2]? = _)
    clear c0 c2 c3 x0 k0 k1 k2 k3 k4 k5 hl0 hl1 hl2 hQ HX0 HX1 HX2 H3 HB3 hRl3 hbl3
    generalize w3.drewN kq = w4 at H4 HB4 HX1' HX2' ⊢
    have hx1 := HX1'.out
    have hx2 := HX2'.out
    have hl1 := lt_of_block hx1
    have hl2 := lt_of_block hx2
    have x1 := cellB' hx1 0 rfl
    have x2 := cellB' hx2 0 rfl
    have z1 := frozB hx1 0
    have z2 := frozB hx2 0
    clear hx1 hx2
    go_wp2_with fail
    obtain ⟨w5, hw5⟩ : ∃ w5, w5 = (w4.setCell ⟨C1, 0, none⟩ (Value.slice none 0 0)).setCell ⟨C2, 0, none⟩ (Value.int IntKind.i64 1) := ⟨_, rfl⟩
    rw [← hw5]
    obtain ⟨y1, y2, hk⟩ := two_set HX1'.out HX2'.out (by omega) _ _ w5 hw5
    clear hw5
    simp [bodyPostD, Leaves, results, Tryz.results12, go_sem, y1, y2]
    rw [HS.out]
    have hgW := HH.out.below.size
    have hgR := HH.out.geR
    have hMl := lt_of_block HH.out.hM
    have h5 := H4.out.kept hk (fun x hx => by
      simp only [List.mem_cons, List.mem_nil_iff, or_false] at hx
      rcases hx with rfl | rfl <;> omega)
    exact ⟨⟨_, rfl, World.ownsRow_nil _ _ _ _⟩, (Keep.of_below HB4.out).old hk (fun x hx => by
      simp only [List.mem_cons, List.mem_nil_iff, or_false] at hx
      rcases hx with rfl | rfl <;> exact .inr (by omega)), h5, HMI.out⟩
end Go.Proofs.YtoaajpppbjaomaaGreatDoor
/- Law 21, plain: what a script's steps do to a runner. -/
namespace Go.Proofs.YtoaajpppbjaomaaGreatDoor
open Go.RowKit
/-! ### the memory's length stays -/
section
variable {funs : List FN} (hr : RightP funs)
include hr
theorem anewF_length' (n k base : Nat) (mem : Mem) (hk : k < funs.length) (h : base + (funs.getD k default).cells.toNat ≤ mem.length) : (anewF funs n k base mem).length = mem.length := anewF_length funs hr n k base mem hk h
theorem doReset_len {base : Nat} {at_ fn : Int} {st : St} (_hb : base ≤ st.mem.length) (hf : 0 ≤ fn ∧ fn < (funs.length : Int)) : (doReset funs base at_ fn st).2.mem.length = st.mem.length := by
  unfold doReset
  split
  · rename_i h
    obtain ⟨h1, h2, h3⟩ := h
    simp only
    have hc := (hr.cells fn.toNat (by omega)).1
    have hfu : further st.mem.length base at_ ≤ st.mem.length := by unfold further; split <;> omega
    refine anewF_length' hr _ _ _ _ (by omega) ?_
    omega
  · rfl
end
theorem doKeep_len (base : Nat) (at_ : Int) (e : XE) (st : St) : (doKeep base at_ e st).2.mem.length = st.mem.length := by
  unfold doKeep
  split
  · split <;> simp
  · rfl
theorem doSet_len (base : Nat) (name : ByteArray) (e : XE) (st : St) : (doSet base name e st).2.mem.length = st.mem.length := by
  unfold doSet
  split <;> rfl
def InstLen (I : Inst) (K : Nat) : Prop := ∀ (k : Nat) (base : Nat) (ins : List Int) (mem : Mem) (cnt : Int), k < K → base ≤ mem.length → (I k base ins mem cnt).2.1.length = mem.length
theorem doStepK_len {I : Inst} {K : Nat} (hI : InstLen I K) {funs : List FN} {base : Nat} {at_ fn : Int} {names : List ByteArray} {args : List XE} {st : St} (_hb : base ≤ st.mem.length) (hf : 0 ≤ fn ∧ fn < (K : Int)) :
    (doStep I funs base at_ fn names args st).2.mem.length = st.mem.length := by
  unfold doStep
  simp only
  split
  · split
    · rfl
    · rename_i l _
      have h := hI fn.toNat (further st.mem.length base at_) l st.mem st.cnt (by omega) ((by unfold further; split <;> omega))
      split
      · rename_i h'; rw [h'] at h; exact h
      · rename_i h'; rw [h'] at h; exact h
  · rfl
mutual
theorem doL_len {funs : List FN} (hr : RightP funs) {I : Inst} {K : Nat} (hI : InstLen I K) (hK : K ≤ funs.length) (base : Nat) : ∀ (l : List FS) (st : St), callsL l K = true → base ≤ st.mem.length → (doL I funs base l st).2.mem.length = st.mem.length
  | [], st, _, _ => rfl
  | s :: r, st, hc, hb => by
    unfold callsL at hc
    rw [Bool.and_eq_true] at hc
    have h1 := doS_len hr hI hK base s { st with cnt := wrap64 (st.cnt + 1) } hc.1 hb
    unfold doL
    split
    · rename_i st' h'
      rw [h'] at h1
      simp only at h1
      rw [doL_len hr hI hK base r st' hc.2 (by omega), h1]
    · rename_i st' h'
      rw [h'] at h1
      exact h1
theorem doS_len {funs : List FN} (hr : RightP funs) {I : Inst} {K : Nat} (hI : InstLen I K) (hK : K ≤ funs.length) (base : Nat) : ∀ (s : FS) (st : St), callsS s K = true → base ≤ st.mem.length → (doS I funs base s st).2.mem.length = st.mem.length
  | .mk op name at_ fn names e args arms, st, hc, hb => by
    unfold callsS at hc
    rw [Bool.and_eq_true] at hc
    have hf : op = 3 ∨ op = 4 → 0 ≤ fn ∧ fn < (K : Int) := by
      intro h
      have := hc.1
      rcases h with rfl | rfl <;> · simp at this; omega
    unfold doS
    split
    · exact doSet_len _ _ _ _
    split
    · exact doKeep_len _ _ _ _
    split
    · rename_i h; exact doStepK_len hI hb (hf (.inl h))
    split
    · rename_i h; exact doReset_len hr hb (by have := hf (.inr h); omega)
    split
    · split
      · rfl
      · rename_i v _; exact doAs_len hr hI hK base arms v st hc.2 hb
    · rfl
theorem doAs_len {funs : List FN} (hr : RightP funs) {I : Inst} {K : Nat} (hI : InstLen I K) (hK : K ≤ funs.length) (base : Nat) : ∀ (l : List FA) (v : Int) (st : St), callsAs l K = true → base ≤ st.mem.length → (doAs I funs base l v st).2.mem.length = st.mem.length
  | [], v, st, _, _ => rfl
  | a :: r, v, st, hc, hb => by
    unfold callsAs at hc
    rw [Bool.and_eq_true] at hc
    unfold doAs
    split
    · exact doA_len hr hI hK base a st hc.1 hb
    · exact doAs_len hr hI hK base r v st hc.2 hb
theorem doA_len {funs : List FN} (hr : RightP funs) {I : Inst} {K : Nat} (hI : InstLen I K) (hK : K ≤ funs.length) (base : Nat) : ∀ (a : FA) (st : St), callsA a K = true → base ≤ st.mem.length → (doA I funs base a st).2.mem.length = st.mem.length
  | .mk n body, st, hc, hb => by
    unfold callsA at hc
    unfold doA
    exact doL_len hr hI hK base body st hc hb
end
theorem instF_memlen {funs : List FN} (hr : RightP funs) : ∀ n, InstLen (instF funs n) funs.length
  | 0, k, base, ins, mem, cnt, hk, hb => rfl
  | n + 1, k, base, ins, mem, cnt, hk, hb => by
    have hI : InstLen (instF funs n) k := fun k' b' i' m' c' h1 h2 => instF_memlen hr n k' b' i' m' c' (by omega) h2
    have h := doL_len hr hI (by omega) base (funs.getD k default).body { mem := mem, cnt := cnt, vs := setvs [] (funs.getD k default).params ins } (hr.calls k hk) hb
    unfold instF
    simp only
    split
    · rename_i st h'; rw [h'] at h; exact h
    · rename_i st h'; rw [h'] at h; exact h
theorem stepF_memlen {funs : List FN} (hr : RightP funs) (h0 : 0 < funs.length) (r : RS) (ins : List Int) : (stepF funs r ins).1.mem.length = r.mem.length := by
  unfold stepF
  split
  · rfl
  split
  · rfl
  have h := instF_memlen hr funs.length (lastF funs) 0 ins r.mem 0 (by unfold lastF; omega) (by omega)
  split
  · rename_i h'; rw [h'] at h; exact h
  · rename_i h'; rw [h'] at h; exact h
def lastCells (funs : List FN) : Nat := (funs.getD (lastF funs) default).cells.toNat
theorem newF_len {funs : List FN} (hr : RightP funs) (h0 : 0 < funs.length) : (newF funs).mem.length = lastCells funs := by
  unfold newF
  simp only
  rw [anewF_length funs hr _ _ _ _ (by unfold lastF; omega) (by simp)]
  simp [lastCells]
/-- begun anew is new -/
theorem clearM_all {mem : Mem} {n : Nat} (h : mem.length = n) : clearM mem 0 n = List.replicate n none := by
  subst h
  simp [clearM]
theorem anewF_same {funs : List FN} {n : Nat} {k : Nat} {m m' : Mem} (h : m.length = (funs.getD k default).cells.toNat) (h' : m'.length = (funs.getD k default).cells.toNat) (hn : 0 < n) : anewF funs n k 0 m = anewF funs n k 0 m' := by
  obtain ⟨n, rfl⟩ : ∃ x, n = x + 1 := ⟨n - 1, by omega⟩
  simp only [anewF]
  rw [clearM_all h, clearM_all h']
theorem beginF_new {funs : List FN} (h0 : 0 < funs.length) {r : RS} (h : r.mem.length = lastCells funs) : beginF funs r = newF funs := by
  unfold beginF newF
  rw [anewF_same (m' := List.replicate (funs.getD (lastF funs) default).cells.toNat none) h (by simp) h0]
/-- what a step says, and what it leaves -/
structure StepFacts (r r' : RS) (out : List Int) (g : Int) : Prop where
  same : g = 1 ∨ g = 13 → r' = r
  none : g ≠ 0 → out = []
  was : g ≠ 1 → (r.trapped = true ↔ g = 13)
  now : r'.trapped = true ↔ (r.trapped = true ∨ g = 12)
  kinds : g = 0 ∨ g = 1 ∨ g = 12 ∨ g = 13
theorem stepF_facts (funs : List FN) (r : RS) (ins : List Int) : StepFacts r (stepF funs r ins).1 (stepF funs r ins).2.1 (stepF funs r ins).2.2 := by
  obtain ⟨mem, tr, cnt⟩ := r
  unfold stepF
  split
  · exact ⟨fun _ => rfl, fun _ => rfl, fun h => absurd rfl h, by simp, by simp⟩
  split
  · rename_i h; exact ⟨fun _ => rfl, fun _ => rfl, fun _ => by simpa using h, by simp, by simp⟩
  rename_i h
  simp only at h
  obtain rfl : tr = false := by simpa using h
  split
  · exact ⟨fun h => by simp at h, fun _ => rfl, by simp, by simp, by simp⟩
  · exact ⟨fun h => by simp at h, fun h => by simp at h, by simp, by simp, by simp⟩
theorem definedF_len (m : Mem) : definedF m ≤ m.length := List.countP_le_length
/-- a script's steps -/
def runF (funs : List FN) : RS → List (List Int) → RS
  | r, [] => r
  | r, l :: ls => runF funs (stepF funs r l).1 ls
theorem runF_snoc (funs : List FN) : ∀ (ls : List (List Int)) (r : RS) (l : List Int), runF funs r (ls ++ [l]) = (stepF funs (runF funs r ls) l).1
  | [], _r, _l => rfl
  | _a :: ls, _r, l => runF_snoc funs ls _ l
theorem runF_len {funs : List FN} (hr : RightP funs) (h0 : 0 < funs.length) : ∀ (ls : List (List Int)) (r : RS), (runF funs r ls).mem.length = r.mem.length
  | [], _r => rfl
  | a :: ls, r => (runF_len hr h0 ls _).trans (stepF_memlen hr h0 r a)
end Go.Proofs.YtoaajpppbjaomaaGreatDoor
/- Law 21: SameLongs; lists of rows and of errors. -/
namespace Go.Proofs.YtoaajpppbjaomaaGreatDoor
open Go.RowKit
theorem append_one {ops : Array Oper} {rest : List Oper} {o : Oper} {a : Act} {w : World} {Q : Exit → Act → World → Prop} (hgd : o.guard = none) (s x : Operand) {S E : TypeId}
    (ho : o.op = .call { callee := .builtin .append, args := #[s, x], argTypes := #[S, S] }) (hU : Tryz.prog.underlying S = some (.slice E)) {z : Value} {by_ : Nat} (hby : by_ ≤ 64)
    (hinfo : (Tryz.prog.info? E).map (fun i => (i.zero, i.size, i.bytes)) = some (some z, 1, by_)) (hz1 : z.cells.size = 1)
    (base : Nat) (v : Value) (n : Nat) (xs : List Value) (hs : a.eval s = v) (hown : w.ownsRow base E 1 v n xs)
    (ad : Addr) (val : Value) (hval : val.oneCell' = true) (hx : a.eval x = .slice (some ad) 1 1) (hnew : w.cell? (ad.add 0) = some val) (hn : n ≤ 1048576) (hbase : base ≤ w.heap.size)
    (h : ∀ v' w', w'.ownsRow base E 1 v' (n + 1) (xs ++ [val]) → w.grownBy w' v.ownBlock → (∀ k, v'.ownBlock = some k → v.ownBlock = some k ∨ w.heap.size ≤ k) → wpList Tryz.prog ops Q rest (a.put o.dst v') w') : wpList Tryz.prog ops Q (o :: rest) a w := by
  obtain ⟨i, hi, hzz⟩ := Option.map_eq_some_iff.1 hinfo
  simp only [Prod.mk.injEq] at hzz
  obtain ⟨hz, hsz, hb⟩ := hzz
  have hnews : ∀ j u, [val][j]? = some u → w.cell? (ad.add j) = some u := fun j u hj => by
    match j, hj with
    | 0, hj => simp at hj; rw [← hj]; exact hnew
  have h1 : ∀ u ∈ [val], u.oneCell' = true := fun u hu => by simp at hu; subst hu; exact hval
  have hbig : (n + 1) * by_ ≤ 140737488355328 := Nat.le_trans (Nat.mul_le_mul (by omega : n + 1 ≤ 1048577) hby) (by omega)
  refine wpList_plain hgd fun K hK => ?_
  obtain ⟨v', w', hr, h2, h3, _⟩ := run_append_own (P := Tryz.prog) w base S o.type E i z 1 by_ hU hi hz hsz hb hz1 (by omega) v n xs hown ad 1 1 [val] rfl hnews h1 (by unfold maxLen; omega) hbig hbase
  have h4 : ∀ k, v'.ownBlock = some k → v.ownBlock = some k ∨ w.heap.size ≤ k := by
    rcases hown.2 with ⟨rfl, rfl⟩ | ⟨g, cap, cur, rfl, hbg, hg, hnc, hcm, hcs, htake⟩
    · have hr' := run_append_nil (P := Tryz.prog) w S o.type E i z hU hi hz ad 1 1 [val] (by rw [hsz]; rfl) hnews (by omega) (by omega) (by rw [hb]; omega)
      have e := hr.symm.trans hr'
      injection e with e1 e2
      subst e1
      intro k hk
      simp only [Value.ownBlock, Option.some.injEq] at hk
      exact .inr (by omega)
    · by_cases hroom : n + 1 ≤ cap
      · have hr' := run_append_room (P := Tryz.prog) w S o.type E i hU hi g n cap cur hg ad 1 1 [val] (by rw [hsz]; rfl) hnews h1 hroom (by rw [hsz, hcs]; simp; omega)
        have e := hr.symm.trans hr'
        injection e with e1 e2
        subst e1
        intro k hk
        exact .inl hk
      · have holds : ∀ j u, xs[j]? = some u → w.cell? ((⟨g, 0, none⟩ : Addr).add j) = some u := hown.cells (g := g) rfl
        have hr' := run_append_grow (P := Tryz.prog) w S o.type E i z hU hi hz ⟨g, 0, none⟩ n cap xs (by rw [hsz]; exact hown.1) holds ad 1 1 [val] (by rw [hsz]; rfl) hnews (by omega) (by omega) (growslice_fits (by omega) (by rw [hb]; exact hbig))
        have e := hr.symm.trans hr'
        injection e with e1 e2
        subst e1
        intro k hk
        simp only [Value.ownBlock, Option.some.injEq] at hk
        exact .inr (by omega)
  unfold Oper.wp execOp
  simp only [ho, resolve, invoke, builtin, Sem.run_bind, Sem.run_pure, Result.andThen_ok, List.map_toArray, List.map_cons, List.map_nil, hs, hx, hr]
  exact hK _ _ (h v' w' h2 h3 h4)
/-- one and the same numbers -/
def SLRel (a b : List Int) (w : World) (i : Value) (wr : World) : Prop := ∃ j : Nat, j ≤ a.length ∧ i = .int .i64 j ∧ (∀ x, x < j → a[x]? = b[x]?) ∧ Below w.heap.size w wr
set_option maxRecDepth 100000 in
set_option maxHeartbeats 1000000 in
theorem same_longs {w : World} {va vb : Value} {a b : List Int} (ha : Ints w va a) (hb : Ints w vb b) (hl : a.length ≤ 9223372036854775807) : Calls Tryz.prog 14 #[va, vb] w (RetB (.bool (decide (a = b))) w) := by
  have HA := Lib.hid ha
  have HB := Lib.hid hb
  obtain ⟨A, c, rfl, -⟩ := ha
  obtain ⟨B, d, rfl, -⟩ := hb
  go_enter Tryz.func14, Tryz.ntmps14
  by_cases hlen : a.length = b.length
  · have d1 : ((a.length : Int) != (b.length : Int)) = false := by simpa using (by omega : (a.length : Int) = (b.length : Int))
    go_wp2_with fail
    go_loopw [5] (fun i wr => SLRel a b w i wr) (fun i _ => a.length - (intOf i).toNat)
    case atStart => exact ⟨0, Nat.zero_le _, rfl, fun x hx => by omega, Below.refl _ _⟩
    case round =>
      obtain ⟨j, hj, rfl, hsame, hbw⟩ := hrel
      have HS := Lib.hid hsame
      have HBW := Lib.hid hbw
      have hbs := hbw.size
      clear hsame d1
      by_cases hlt : j < a.length
      · obtain ⟨b1, o1, c1, hx1, hb1, hy1⟩ := int_cell HA.out (j := j) hlt
        obtain ⟨b2, o2, c2, hx2, hb2, hy2⟩ := int_cell HB.out (j := j) (by omega)
        injection hx1 with hx1 e5 e6
        injection hx2 with hx2 e7 e8
        subst hx1 hx2
        clear e5 e6 e7 e8
        replace hy1 := (hbw.cell (p := ⟨b1, o1 + j, none⟩) hb1).trans hy1
        replace hy2 := (hbw.cell (p := ⟨b2, o2 + j, none⟩) hb2).trans hy2
        have hl1 : b1 < wr.heap.size := by omega
        have hl2 : b2 < wr.heap.size := by omega
        have g1 : a[j]? = some a[j] := List.getElem?_eq_getElem hlt
        have g2 : b[j]? = some b[j] := List.getElem?_eq_getElem (by omega)
        have HG1 := Lib.hid g1
        have HG2 := Lib.hid g2
        clear hbw g1 g2
        generalize a[j] = x at hy1 HG1
        generalize b[j] = y at hy2 HG2
        by_cases hxy : x = y
        · subst hxy
          have d2 : ((x : Int) != x) = false := by simp
          go_wp2_with fail
          go_quiet (fail)
          go_wp2_with fail
          refine ⟨⟨j + 1, hlt, by simp, fun y hy => ?_, Below.drewN' HBW.out _⟩, by simp [intOf]; omega⟩
          rcases Nat.lt_or_ge y j with h | h
          · exact HS.out y h
          · obtain rfl : y = j := by omega
            rw [HG1.out, HG2.out]
        · have d2 : ((x : Int) != y) = true := by simpa using hxy
          have hne : a ≠ b := fun e => by
            have := HG1.out
            rw [e, HG2.out] at this
            simp at this
            exact hxy this.symm
          have HNE := Lib.hid hne
          clear hne
          go_wp2_with fail
          go_quiet (fail)
          go_wp2_with fail
          go_ret
          exact ⟨by rw [decide_eq_false HNE.out]; rfl, Below.drewN' HBW.out _⟩
      · obtain rfl : j = a.length := by omega
        have hE : a = b := List.ext_getElem? fun x => by
          rcases Nat.lt_or_ge x a.length with h | h
          · exact HS.out x h
          · rw [List.getElem?_eq_none h, List.getElem?_eq_none (by omega)]
        clear hbw
        go_wp2_with fail
        go_ret
        exact ⟨by rw [decide_eq_true hE]; rfl, HBW.out⟩
  · have d1 : ((a.length : Int) != (b.length : Int)) = true := by simpa using (by omega : ¬ (a.length : Int) = (b.length : Int))
    have hne : a ≠ b := fun e => hlen (by rw [e])
    have HNE := Lib.hid hne
    clear hne
    go_wp2_with fail
    go_ret
    exact ⟨by rw [decide_eq_false HNE.out]; rfl, Below.refl _ _⟩
/-- a script's row, where it lies -/
structure RowAt (W w : World) (sv : Value) (rows : List (List Int)) (j : Nat) (b o : Nat) (vi : Value) (l : List Int) : Prop where
  bl : b < W.heap.size
  cell : w.cell? ⟨b, o + j, none⟩ = some vi
  ints : Ints w vi l
  i64 : ∀ v, v ∈ l → I64 v
  len : l.length ≤ 1048576
  far : ∀ x, W.heap.size ≤ x → ∀ o n c, 0 < n → vi ≠ .slice (some ⟨x, o, none⟩) n c
def RRow (W : World) (l : List Int) (cs : List Value) : Prop := ∃ v, cs = [v] ∧ RepV RInt 1 W v l
theorem repV_ints {W w : World} {v : Value} {l : List Int} (h : RepV RInt 1 W v l) (hb : Below W.heap.size W w) :
    Ints w v l ∧ (∀ x, x ∈ l → I64 x) ∧ l.length ≤ 1048576 ∧ ∀ x, W.heap.size ≤ x → ∀ o n c, 0 < n → v ≠ .slice (some ⟨x, o, none⟩) n c := by
  obtain ⟨A, c, rfl, h1, h2, h3, h4⟩ := h.get hb
  refine ⟨⟨A, c, rfl, fun j x hj => ?_⟩, fun x hx => ?_, h3, fun x hx o n c' hn e => ?_⟩
  · obtain ⟨b, o, cs, rfl, h5, h6, ⟨rfl, -⟩, h8⟩ := h4 j x hj
    refine ⟨b, o, rfl, Nat.lt_of_lt_of_le h5 hb.size, ?_⟩
    have := h8 0 _ rfl
    simpa using this
  · obtain ⟨j, hj⟩ := List.getElem?_of_mem hx
    obtain ⟨b, o, cs, rfl, h5, h6, ⟨rfl, h7⟩, h8⟩ := h4 j x hj
    exact h7
  · injection e with e1 e2 e3
    have hl : 0 < l.length := by omega
    obtain ⟨b, o', cs, rfl, h5, -⟩ := h4 0 _ (List.getElem?_eq_getElem hl)
    injection e1 with e1
    injection e1 with e1 _ _
    omega
theorem row_at {W w : World} {sv : Value} {rows : List (List Int)} (h : RepV (RRow W) 1 W sv rows) (hb : Below W.heap.size W w) {j : Nat} (hj : j < rows.length) :
    ∃ b o c vi, sv = .slice (some ⟨b, o, none⟩) rows.length c ∧ RowAt W w sv rows j b o vi rows[j] := by
  obtain ⟨A, c, rfl, h1, h2, h3, h4⟩ := h.get hb
  obtain ⟨b, o, cs, rfl, h5, h6, ⟨v, rfl, hv⟩, h8⟩ := h4 j _ (List.getElem?_eq_getElem hj)
  obtain ⟨i1, i2, i3, i4⟩ := repV_ints hv hb
  exact ⟨b, o, c, v, rfl, h5, by have := h8 0 _ rfl; simpa using this, i1, i2, i3, i4⟩
theorem newF_I64 (funs : List FN) : ∀ v, some v ∈ (newF funs).mem → I64 v :=
  anewF_I64 funs _ _ _ _ (fun v hv => by simp at hv)
theorem row_step {W w : World} {R M : Nat} {fv sv : Value} {funs : List FN} {nf : Nat} {rows : List (List Int)} (hrep : RepV (RepF W nf) 6 W fv funs) (hr : RightP funs) (h0 : 0 < funs.length) {r : RS}
    (h : MemSt W w R M fv r.mem r.trapped r.count) (hmI : r.trapped = false → ∀ v, some v ∈ r.mem → I64 v) {j b o : Nat} {vi : Value} {l : List Int} (ha : RowAt W w sv rows j b o vi l) :
    Calls Tryz.prog 12 #[.pointer (some ⟨R, 0, none⟩), vi] w (RunStep W R M fv (stepF funs r l) w) :=
  run_step hrep hr h0 h hmI ha.ints ha.i64 ha.len (fun x hx o n c hn => ha.far x (by
    have := h.geR
    have := h.geM
    simp at hx
    omega) o n c hn)
end Go.Proofs.YtoaajpppbjaomaaGreatDoor
/- A flat program and a script: what they read as. -/
namespace Go.Proofs.YtoaajpppbjaomaaGreatDoor
open Go.RowKit
section
variable {H : Type} {enc : TypeId × Value → H} {W : World} {base : Nat} {spare : Nat → Bool} {held : Bool}
theorem Tryz.cX : Tryz.prog.cellsOf 85 = 5 := by kernel_rfl
theorem Tryz.cS : Tryz.prog.cellsOf 88 = 12 := by kernel_rfl
theorem Tryz.cA : Tryz.prog.cellsOf 90 = 2 := by kernel_rfl
theorem Tryz.cF : Tryz.prog.cellsOf 50 = 6 := by kernel_rfl
theorem Tryz.cP : Tryz.prog.cellsOf 56 = 2 := by kernel_rfl
theorem Tryz.cFl : Tryz.prog.cellsOf 24 = 1 := by kernel_rfl
theorem Tryz.cInt : Tryz.prog.cellsOf 3 = 1 := by kernel_rfl
theorem Tryz.cI64 : Tryz.prog.cellsOf 2 = 1 := by kernel_rfl
theorem Tryz.cStr : Tryz.prog.cellsOf 9 = 1 := by kernel_rfl
theorem Tryz.cSs : Tryz.prog.cellsOf 45 = 1 := by kernel_rfl
theorem Tryz.cSi : Tryz.prog.cellsOf 46 = 1 := by kernel_rfl
theorem Tryz.cSl : Tryz.prog.cellsOf 35 = 1 := by kernel_rfl
theorem Tryz.cSx : Tryz.prog.cellsOf 83 = 1 := by kernel_rfl
theorem Tryz.cSp : Tryz.prog.cellsOf 47 = 1 := by kernel_rfl
theorem Tryz.cSst : Tryz.prog.cellsOf 48 = 1 := by kernel_rfl
theorem Tryz.cSa : Tryz.prog.cellsOf 86 = 1 := by kernel_rfl
theorem Tryz.cSf : Tryz.prog.cellsOf 22 = 1 := by kernel_rfl
theorem len1 {l : List Value} (h : l.length = 1) : ∃ a, l = [a] := by
  match l, h with
  | [a], _ => exact ⟨_, rfl⟩
theorem len2 {l : List Value} (h : l.length = 2) : ∃ a b, l = [a, b] := by
  match l, h with
  | [a, b], _ => exact ⟨_, _, rfl⟩
theorem len5 {l : List Value} (h : l.length = 5) : ∃ a b c d e, l = [a, b, c, d, e] := by
  match l, h with
  | [a, b, c, d, e], _ => exact ⟨_, _, _, _, _, rfl⟩
theorem len6 {l : List Value} (h : l.length = 6) : ∃ a b c d e f, l = [a, b, c, d, e, f] := by
  match l, h with
  | [a, b, c, d, e, f], _ => exact ⟨_, _, _, _, _, _, rfl⟩
theorem len12 {l : List Value} (h : l.length = 12) : ∃ a b c d e f g h' i j k m, l = [a, b, c, d, e, f, g, h', i, j, k, m] := by
  match l, h with
  | [a, b, c, d, e, f, g, h', i, j, k, m], _ => exact ⟨_, _, _, _, _, _, _, _, _, _, _, _, rfl⟩
/-- a struct's field reads, and is of less bulk -/
theorem read_field {t : TypeId} {fs : Array Field} {cs : List Value} {x : DataW H × List MemPlace} {n : Nat} (ht : Tryz.prog.underlying t = some (.struct fs)) (h : Reads enc W base spare held t cs x) (hb : Rows.uptoBulk x.1 ≤ n + 1) :
    cs.length = Tryz.prog.cellsOf t ∧ ∀ (i : Nat) (t' o sz : Nat), (fs[i]?).map (fun f => (f.type, f.offset)) = some (t', o) → Tryz.prog.cellsOf t' = sz → ∃ y, Reads enc W base spare held t' ((cs.drop o).take sz) y ∧ Rows.uptoBulk y.1 ≤ n := by
  obtain ⟨fuel, h⟩ := h
  obtain ⟨xs, m, -, rfl, hl, hxl, hf⟩ := DataW.trod_struct ht h
  refine ⟨hl, fun i t' o sz hi' hsz => ?_⟩
  obtain ⟨f, hi, hfe⟩ := Option.map_eq_some_iff.1 hi'
  simp only [Prod.mk.injEq] at hfe
  obtain ⟨rfl, rfl⟩ := hfe
  subst hsz
  have hil : i < xs.length := by rw [hxl]; exact (Array.getElem?_eq_some_iff.1 hi).1
  have hg := hf i f hi
  rw [List.getElem?_eq_getElem hil] at hg
  refine ⟨_, ⟨m, hg⟩, ?_⟩
  simp only [Rows.uptoBulk] at hb
  have hmem : (xs[i]).1 ∈ xs.map (·.1) := List.mem_map.2 ⟨_, List.getElem_mem _, rfl⟩
  have := bulk_mem hmem
  omega
theorem read_strs {n : Nat} {cs : List Value} {x : DataW H × List MemPlace} (h : Reads enc W base spare held 45 cs x) (hb : Rows.uptoBulk x.1 ≤ n) (hn : n ≤ 1048576) : ∃ v xs, cs = [v] ∧ RepV RStr 1 W v xs :=
  read_slice (n := n) Tryz.underlying45 Tryz.cStr (by omega) h (by omega) hn (fun cs' y hy hyb => by
    obtain ⟨s, rfl, hs⟩ := read_string Tryz.underlying9 hy (by omega)
    exact ⟨s, rfl, hs⟩)
theorem read_ints {n : Nat} {cs : List Value} {x : DataW H × List MemPlace} (h : Reads enc W base spare held 46 cs x) (hb : Rows.uptoBulk x.1 ≤ n) (hn : n ≤ 1048576) : ∃ v xs, cs = [v] ∧ RepV RInt 1 W v xs :=
  read_slice (n := n) Tryz.underlying46 Tryz.cInt (by omega) h (by omega) hn (fun cs' y hy _ => by
    obtain ⟨k, rfl, hk⟩ := read_int Tryz.underlying3 hy
    exact ⟨k, rfl, hk⟩)
theorem read_longs {n : Nat} {cs : List Value} {x : DataW H × List MemPlace} (h : Reads enc W base spare held 35 cs x) (hb : Rows.uptoBulk x.1 ≤ n) (hn : n ≤ 1048576) : ∃ v xs, cs = [v] ∧ RepV RInt 1 W v xs :=
  read_slice (n := n) Tryz.underlying35 Tryz.cI64 (by omega) h (by omega) hn (fun cs' y hy _ => by
    obtain ⟨k, rfl, hk⟩ := read_int Tryz.underlying2 hy
    exact ⟨k, rfl, hk⟩)
theorem RepV.sl1 {α : Type} {R : α → List Value → Prop} {sz : Nat} {W : World} {v : Value} {xs : List α} (h : RepV R sz W v xs) : IsSl v := by
  obtain ⟨_, A, c, rfl, _⟩ := h
  exact ⟨_, _, _, rfl⟩
theorem read_X : ∀ (n : Nat), n ≤ 1048576 → ∀ {cs : List Value} {x : DataW H × List MemPlace}, Reads enc W base spare held 85 cs x → Rows.uptoBulk x.1 ≤ n → ∃ e, RepX W n e cs
  | 0, _, cs, x, h, hb => by have := bulk_pos x.1; omega
  | n + 1, hn, cs, x, h, hb => by
    obtain ⟨hl, hf⟩ := read_field Tryz.underlying85 h hb
    obtain ⟨c0, c1, c2, c3, c4, rfl⟩ := len5 (hl.trans Tryz.cX)
    obtain ⟨y0, r0, b0⟩ := hf 0 3 0 _ rfl Tryz.cInt
    obtain ⟨y1, r1, b1⟩ := hf 1 9 1 _ rfl Tryz.cStr
    obtain ⟨y2, r2, b2⟩ := hf 2 2 2 _ rfl Tryz.cI64
    obtain ⟨y3, r3, b3⟩ := hf 3 45 3 _ rfl Tryz.cSs
    obtain ⟨y4, r4, b4⟩ := hf 4 83 4 _ rfl Tryz.cSx
    simp only [List.drop_succ_cons, List.drop_zero, List.take_succ_cons, List.take_zero] at r0 r1 r2 r3 r4
    obtain ⟨k0, e0, i0⟩ := read_int Tryz.underlying3 r0
    obtain ⟨s1, e1, i1⟩ := read_string Tryz.underlying9 r1 (by omega)
    obtain ⟨k2, e2, i2⟩ := read_int Tryz.underlying2 r2
    obtain ⟨v3, x3, e3, i3⟩ := read_strs r3 b3 (by omega)
    obtain ⟨v4, x4, e4, i4⟩ := read_slice (R := RepX W n) (n := n) Tryz.underlying83 Tryz.cX (by omega) r4 (by omega) (by omega) (fun cs' y hy hyb => read_X n (by omega) hy hyb)
    simp only [List.cons.injEq, and_true] at e0 e1 e2 e3 e4
    subst e0 e1 e2 e3 e4
    exact ⟨.mk k0 s1 k2 x4, _, _, rfl, i3.sl1, i0, i2, i1, i4⟩
theorem read_S : ∀ (n : Nat), n ≤ 1048576 → ∀ {cs : List Value} {x : DataW H × List MemPlace}, Reads enc W base spare held 88 cs x → Rows.uptoBulk x.1 ≤ n → ∃ s, RepS W n s cs
  | 0, _, cs, x, h, hb => by have := bulk_pos x.1; omega
  | n + 1, hn, cs, x, h, hb => by
    obtain ⟨hl, hf⟩ := read_field Tryz.underlying88 h hb
    obtain ⟨c0, c1, c2, c3, c4, c5, c6, c7, c8, c9, c10, c11, rfl⟩ := len12 (hl.trans Tryz.cS)
    obtain ⟨y0, r0, b0⟩ := hf 0 3 0 _ rfl Tryz.cInt
    obtain ⟨y1, r1, b1⟩ := hf 1 9 1 _ rfl Tryz.cStr
    obtain ⟨y2, r2, b2⟩ := hf 2 3 2 _ rfl Tryz.cInt
    obtain ⟨y3, r3, b3⟩ := hf 3 3 3 _ rfl Tryz.cInt
    obtain ⟨y4, r4, b4⟩ := hf 4 45 4 _ rfl Tryz.cSs
    obtain ⟨y5, r5, b5⟩ := hf 5 85 5 _ rfl Tryz.cX
    obtain ⟨y6, r6, b6⟩ := hf 6 83 10 _ rfl Tryz.cSx
    obtain ⟨y7, r7, b7⟩ := hf 7 86 11 _ rfl Tryz.cSa
    simp only [List.drop_succ_cons, List.drop_zero, List.take_succ_cons, List.take_zero] at r0 r1 r2 r3 r4 r5 r6 r7
    obtain ⟨k0, e0, i0⟩ := read_int Tryz.underlying3 r0
    obtain ⟨s1, e1, i1⟩ := read_string Tryz.underlying9 r1 (by omega)
    obtain ⟨k2, e2, i2⟩ := read_int Tryz.underlying3 r2
    obtain ⟨k3, e3, i3⟩ := read_int Tryz.underlying3 r3
    obtain ⟨v4, x4, e4, i4⟩ := read_strs r4 b4 (by omega)
    obtain ⟨x5, i5⟩ := read_X n (by omega) r5 b5
    obtain ⟨v6, x6, e6, i6⟩ := read_slice (R := RepX W n) (n := n) Tryz.underlying83 Tryz.cX (by omega) r6 (by omega) (by omega) (fun cs' y hy hyb => read_X n (by omega) hy hyb)
    obtain ⟨v7, x7, e7, i7⟩ := read_slice (R := RepA (RepS W n) W) (n := n) Tryz.underlying86 Tryz.cA (by omega) r7 (by omega) (by omega) (fun cs' y hy hyb => by
      obtain ⟨hl', hf'⟩ := read_field (n := n) Tryz.underlying90 hy (by omega)
      obtain ⟨d0, d1, rfl⟩ := len2 (hl'.trans Tryz.cA)
      obtain ⟨z0, q0, g0⟩ := hf' 0 2 0 _ rfl Tryz.cI64
      obtain ⟨z1, q1, g1⟩ := hf' 1 48 1 _ rfl Tryz.cSst
      simp only [List.drop_succ_cons, List.drop_zero, List.take_succ_cons, List.take_zero] at q0 q1
      obtain ⟨m0, f0, j0⟩ := read_int Tryz.underlying2 q0
      obtain ⟨u1, l1, f1, j1⟩ := read_slice (R := RepS W n) (n := n) Tryz.underlying48 Tryz.cS (by omega) q1 (by omega) (by omega) (fun cs' y hy hyb => read_S n (by omega) hy hyb)
      simp only [List.cons.injEq, and_true] at f0 f1
      subst f0 f1
      exact ⟨.mk m0 l1, _, rfl, j0, j1⟩)
    simp only [List.cons.injEq, and_true] at e0 e1 e2 e3 e4 e6 e7
    subst e0 e1 e2 e3 e4 e6 e7
    exact ⟨.mk k0 s1 k2 k3 x4 x5 x6 x7, _, _, _, _, rfl, i0, i2, i3, i1, i4, i5, i6, i7⟩
theorem read_F {n : Nat} (hn : n ≤ 1048576) {cs : List Value} {x : DataW H × List MemPlace} (h : Reads enc W base spare held 50 cs x) (hb : Rows.uptoBulk x.1 ≤ n) : ∃ f, RepF W n f cs := by
  obtain ⟨hl, hf⟩ := read_field (n := n) Tryz.underlying50 h (by omega)
  obtain ⟨c0, c1, c2, c3, c4, c5, rfl⟩ := len6 (hl.trans Tryz.cF)
  obtain ⟨y0, r0, b0⟩ := hf 0 45 0 _ rfl Tryz.cSs
  obtain ⟨y1, r1, b1⟩ := hf 1 45 1 _ rfl Tryz.cSs
  obtain ⟨y2, r2, b2⟩ := hf 2 3 2 _ rfl Tryz.cInt
  obtain ⟨y3, r3, b3⟩ := hf 3 46 3 _ rfl Tryz.cSi
  obtain ⟨y4, r4, b4⟩ := hf 4 47 4 _ rfl Tryz.cSp
  obtain ⟨y5, r5, b5⟩ := hf 5 48 5 _ rfl Tryz.cSst
  simp only [List.drop_succ_cons, List.drop_zero, List.take_succ_cons, List.take_zero] at r0 r1 r2 r3 r4 r5
  obtain ⟨v0, x0, e0, i0⟩ := read_strs r0 b0 (by omega)
  obtain ⟨v1, x1, e1, i1⟩ := read_strs r1 b1 (by omega)
  obtain ⟨k2, e2, i2⟩ := read_int Tryz.underlying3 r2
  obtain ⟨v3, x3, e3, i3⟩ := read_ints r3 b3 (by omega)
  obtain ⟨v4, x4, e4, i4⟩ := read_slice (R := RPart) (n := n) Tryz.underlying47 Tryz.cP (by omega) r4 (by omega) (by omega) (fun cs' y hy hyb => by
    obtain ⟨hl', hf'⟩ := read_field (n := n) Tryz.underlying56 hy (by omega)
    obtain ⟨d0, d1, rfl⟩ := len2 (hl'.trans Tryz.cP)
    obtain ⟨z0, q0, g0⟩ := hf' 0 3 0 _ rfl Tryz.cInt
    obtain ⟨z1, q1, g1⟩ := hf' 1 3 1 _ rfl Tryz.cInt
    simp only [List.drop_succ_cons, List.drop_zero, List.take_succ_cons, List.take_zero] at q0 q1
    obtain ⟨m0, f0, j0⟩ := read_int Tryz.underlying3 q0
    obtain ⟨m1, f1, j1⟩ := read_int Tryz.underlying3 q1
    simp only [List.cons.injEq, and_true] at f0 f1
    subst f0 f1
    exact ⟨⟨m0, m1⟩, rfl, j0, j1⟩)
  obtain ⟨v5, x5, e5, i5⟩ := read_slice (R := RepS W n) (n := n) Tryz.underlying48 Tryz.cS (by omega) r5 (by omega) (by omega) (fun cs' y hy hyb => read_S n (by omega) hy hyb)
  simp only [List.cons.injEq, and_true] at e0 e1 e2 e3 e4 e5
  subst e0 e1 e2 e3 e4 e5
  exact ⟨⟨x0, x1, k2, x3, x4, x5⟩, _, _, _, _, _, rfl, i2, i0, i1, i3, i4, i5⟩
theorem read_flat {cs : List Value} {x : DataW H × List MemPlace} (h : Reads enc W base spare held 24 cs x) (hb : Rows.uptoBulk x.1 ≤ 1048576) : ∃ fv funs, cs = [fv] ∧ RepV (RepF W 1048576) 6 W fv funs := by
  obtain ⟨hl, hf⟩ := read_field (n := 1048576) Tryz.underlying24 h (by omega)
  obtain ⟨c0, rfl⟩ := len1 (hl.trans Tryz.cFl)
  obtain ⟨y0, r0, b0⟩ := hf 0 22 0 _ rfl Tryz.cSf
  simp only [List.drop_zero, List.take_succ_cons, List.take_zero] at r0
  exact read_slice (R := RepF W 1048576) (n := 1048576) Tryz.underlying22 Tryz.cF (by omega) r0 (by omega) (by omega) (fun cs' y hy hyb => read_F (by omega) hy hyb)
theorem read_script {cs : List Value} {x : DataW H × List MemPlace} (h : Reads enc W base spare held 25 cs x) (hb : Rows.uptoBulk x.1 ≤ 1048576) : ∃ sv rows, cs = [sv] ∧ RepV (RRow W) 1 W sv rows :=
  read_slice (R := RRow W) (n := 1048576) Tryz.underlying25 Tryz.cSl (by omega) h (by omega) (by omega) (fun cs' y hy hyb => by
    obtain ⟨v, l, rfl, hr⟩ := read_longs hy hyb (by omega)
    exact ⟨l, v, rfl, hr⟩)
end
end Go.Proofs.YtoaajpppbjaomaaGreatDoor
/- The parser of flat texts: its words, next, takes, want. -/
namespace Go.Proofs.YtoaajpppbjaomaaGreatDoor
open Go.RowKit
structure PS (W w : World) (P B cap : Nat) (ws : List ByteArray) (at_ op : Nat) : Prop where
  below : Below W.heap.size W w
  hP : w.heap[P]? = some (.cells #[.slice (some ⟨B, 0, none⟩) ws.length cap, .int .i64 at_, .int .i64 op] 80 (0, 0))
  hB : ∀ j s, ws[j]? = some s → w.cell? ⟨B, j, none⟩ = some (.string s)
  Blt : B < w.heap.size
  geP : W.heap.size ≤ P
  PB : P ≠ B
  len : ws.length ≤ 1048576
  ats : at_ ≤ ws.length
  ops : op ≤ 100
theorem PS.on {W w w' : World} {P B cap : Nat} {ws : List ByteArray} {at_ op : Nat} (h : PS W w P B cap ws at_ op) (hb : Below w.heap.size w w') : PS W w' P B cap ws at_ op :=
  { h with
    below := h.below.trans (hb.mono h.below.size)
    hP := (hb.block P (lt_of_block h.hP)).trans h.hP
    hB := fun j s hj => (hb.cell (p := ⟨B, j, none⟩) h.Blt).trans (h.hB j s hj)
    Blt := Nat.lt_of_lt_of_le h.Blt hb.size }
theorem PS.c0 {W w : World} {P B cap : Nat} {ws : List ByteArray} {at_ op : Nat} (h : PS W w P B cap ws at_ op) : w.cell? ⟨P, 0, none⟩ = some (.slice (some ⟨B, 0, none⟩) ws.length cap) := cellB' h.hP 0 rfl
theorem PS.c1 {W w : World} {P B cap : Nat} {ws : List ByteArray} {at_ op : Nat} (h : PS W w P B cap ws at_ op) : w.cell? ⟨P, 1, none⟩ = some (.int .i64 at_) := cellB' h.hP 1 rfl
theorem PS.c2 {W w : World} {P B cap : Nat} {ws : List ByteArray} {at_ op : Nat} (h : PS W w P B cap ws at_ op) : w.cell? ⟨P, 2, none⟩ = some (.int .i64 op) := cellB' h.hP 2 rfl
theorem PS.setAt {W w : World} {P B cap : Nat} {ws : List ByteArray} {at_ op : Nat} (h : PS W w P B cap ws at_ op) (a : Nat) (ha : a ≤ ws.length) :
    PS W (w.setCell ⟨P, 1, none⟩ (.int .i64 a)) P B cap ws a op ∧ Keep [P] w (w.setCell ⟨P, 1, none⟩ (.int .i64 a)) := by
  have hk : Keep [P] w (w.setCell ⟨P, 1, none⟩ (.int .i64 a)) := (Keep.refl _ _).setCell (.inl (by simp)) _
  refine ⟨{ h with
    below := hk.below h.below h.below.size (fun x hx => by have : x = P := by simpa using hx
                                                           rw [this]; exact h.geP)
    hP := by rw [heap_setCell_eq h.hP]; rfl
    hB := fun j s hj => (World.cell?_of_block (w := w) (heap_setCell_ne 1 _ (Ne.symm h.PB))).trans (h.hB j s hj)
    Blt := by have := hk.size; have := h.Blt; omega
    ats := ha }, hk⟩
theorem PS.setOp {W w : World} {P B cap : Nat} {ws : List ByteArray} {at_ op : Nat} (h : PS W w P B cap ws at_ op) (a : Nat) (ha : a ≤ 100) :
    PS W (w.setCell ⟨P, 2, none⟩ (.int .i64 a)) P B cap ws at_ a ∧ Keep [P] w (w.setCell ⟨P, 2, none⟩ (.int .i64 a)) := by
  have hk : Keep [P] w (w.setCell ⟨P, 2, none⟩ (.int .i64 a)) := (Keep.refl _ _).setCell (.inl (by simp)) _
  refine ⟨{ h with
    below := hk.below h.below h.below.size (fun x hx => by have : x = P := by simpa using hx
                                                           rw [this]; exact h.geP)
    hP := by rw [heap_setCell_eq h.hP]; rfl
    hB := fun j s hj => (World.cell?_of_block (w := w) (heap_setCell_ne 2 _ (Ne.symm h.PB))).trans (h.hB j s hj)
    Blt := by have := hk.size; have := h.Blt; omega
    ops := ha }, hk⟩
structure ParP (v : Value) (W : World) (P B cap : Nat) (ws : List ByteArray) (at_ op : Nat) (w : World) (e : Ending) (w' : World) : Prop where
  ret : e = .returned v
  keep : Keep [P] w w'
  st : PS W w' P B cap ws at_ op
section
variable {W w : World} {P B cap : Nat} {ws : List ByteArray} {at_ op : Nat}
set_option maxHeartbeats 400000 in
theorem next_any (h : PS W w P B cap ws at_ op) {s : ByteArray} (hs : ws[at_]? = some s) : Calls Tryz.prog 75 #[.pointer (some ⟨P, 0, none⟩)] w (RetD (.string s) w) := by
  have c0 := h.c0
  have c1 := h.c1
  have hPl := lt_of_block h.hP
  have hBl := h.Blt
  have hlt := (List.getElem?_eq_some_iff.1 hs).1
  have hll := h.len
  have hc := h.hB at_ s hs
  have d0 : ((at_ : Int) == (ws.length : Int)) = false := by simpa using (by omega : ¬ (at_ : Int) = ws.length)
  clear h hs
  go_enter Tryz.func75, Tryz.ntmps75
  go_wp2_with fail
  go_quiet (fail)
  go_wp2_with fail
  refine region_qtail 10 (by kernel_rfl) (by kernel_rfl) ?_
  simp only [List.take_succ_cons, List.take_zero, List.drop_succ_cons, List.drop_zero]
  repeat (go_big_quiet_step (fail))
  refine wpQuiet_nil ?_
  intro kq
  go_wp2_with fail
  go_ret
  exact ⟨rfl, _, drewN_two _ _ _⟩
set_option maxHeartbeats 400000 in
theorem takes_no (h : PS W w P B cap ws at_ op) {s t : ByteArray} (hs : ws[at_]? = some t) (hne : (t.toList == s.toList) = false) : Calls Tryz.prog 73 #[.pointer (some ⟨P, 0, none⟩), .string s] w (RetD (.bool false) w) := by
  have c0 := h.c0
  have c1 := h.c1
  have hPl := lt_of_block h.hP
  have hBl := h.Blt
  have hlt := (List.getElem?_eq_some_iff.1 hs).1
  have hll := h.len
  have hc := h.hB at_ t hs
  have d0 : ((at_ : Int) == (ws.length : Int)) = false := by simpa using (by omega : ¬ (at_ : Int) = ws.length)
  clear h hs
  go_enter Tryz.func73, Tryz.ntmps73
  go_wp2_with fail
  go_quiet (fail)
  go_wp2_with fail
  go_ret
  exact ⟨rfl, _, rfl⟩
set_option maxHeartbeats 400000 in
theorem takes_yes (h : PS W w P B cap ws at_ op) {s : ByteArray} (hs : ws[at_]? = some s) : Calls Tryz.prog 73 #[.pointer (some ⟨P, 0, none⟩), .string s] w (ParP (.bool true) W P B cap ws (at_ + 1) op w) := by
  have c0 := h.c0
  have c1 := h.c1
  have z1 := frozB h.hP 1
  have hPl := lt_of_block h.hP
  have hBl := h.Blt
  have hlt := (List.getElem?_eq_some_iff.1 hs).1
  have hll := h.len
  have hc := h.hB at_ s hs
  have d0 : ((at_ : Int) == (ws.length : Int)) = false := by simpa using (by omega : ¬ (at_ : Int) = ws.length)
  have HH := Lib.hid h
  clear h hs
  go_enter Tryz.func73, Tryz.ntmps73
  go_wp2_with fail
  go_quiet (fail)
  go_wp2_with fail
  go_ret
  have h2 := HH.out.on (Below.drewN' (Below.refl _ _) nq)
  obtain ⟨h3, hk3⟩ := h2.setAt (at_ + 1) (by omega)
  exact ⟨rfl, (Keep.of_below (Below.drewN' (Below.refl _ _) nq)).trans hk3, h3⟩
/-- one word that must come -/
def WantRel (W : World) (P B cap : Nat) (ws : List ByteArray) (at_ op : Nat) (w : World) (i : Value) (wr : World) : Prop :=
  (i = .int .i64 0 ∧ wr = w) ∨ (i = .int .i64 1 ∧ Keep [P] w wr ∧ PS W wr P B cap ws (at_ + 1) op)
set_option maxHeartbeats 400000 in
theorem want_one (h : PS W w P B cap ws at_ op) {s : ByteArray} (hs : ws[at_]? = some s) {G : Nat} (hG : w.cell? ⟨G, 0, none⟩ = some (.string s)) : Calls Tryz.prog 47 #[.pointer (some ⟨P, 0, none⟩), .slice (some ⟨G, 0, none⟩) 1 1] w (ParP (.tuple #[]) W P B cap ws (at_ + 1) op w) := by
  have hGl := World.block_lt_of_cell? w _ hG
  have HH := Lib.hid h
  have HS := Lib.hid hs
  clear h hs
  go_enter Tryz.func47, Tryz.ntmps47
  go_wp2_with fail
  go_loopw [8] (fun i wr => WantRel W P B cap ws at_ op w i wr) (fun i _ => 1 - (intOf i).toNat)
  case atStart => exact .inl ⟨rfl, rfl⟩
  case round =>
    rcases hrel with ⟨rfl, rfl⟩ | ⟨rfl, hk, hst⟩
    · go_wp2_with fail
      refine (takes_yes HH.out HS.out).mono ?_
      rintro e w2 ⟨rfl, hk2, hst2⟩
      have HK := Lib.hid hk2
      have HST := Lib.hid hst2
      clear hk2 hst2
      go_wp2_with fail
      exact ⟨.inr ⟨rfl, HK.out, HST.out⟩, by simp [intOf]⟩
    · have HK := Lib.hid hk
      have HST := Lib.hid hst
      clear hk hst
      go_wp2_with fail
      go_end0
      exact ⟨rfl, HK.out, HST.out⟩
end
end Go.Proofs.YtoaajpppbjaomaaGreatDoor
