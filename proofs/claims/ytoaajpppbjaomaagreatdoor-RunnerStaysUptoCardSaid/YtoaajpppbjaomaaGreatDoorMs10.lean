/- One claim's texts, merged by program: parts Bd. -/
import Derived.Test.YtoaajpppbjaomaaGreatDoorMs09
import Derived.Stop.LaidErr
/- Law 21: the walk of RunnerStays. -/
namespace Go.Proofs.YtoaajpppbjaomaaGreatDoor
open Go.RowKit
def StRel (W w5 : World) (R M : Nat) (fv : Value) (funs : List FN) (rows : List (List Int)) (t i : Value) (wr : World) : Prop :=
  ∃ (k : Nat) (r : RS), k ≤ rows.length ∧ i = .int .i64 k ∧ t = .bool r.trapped ∧ r.mem.length = lastCells funs ∧ MemSt W wr R M fv r.mem r.trapped r.count ∧ (r.trapped = false → ∀ v, some v ∈ r.mem → I64 v) ∧ Keep [R, M] w5 wr
theorem keep_low {w5 wr : World} {R M N : Nat} {o : Obj} (h : w5.heap[N]? = some o) (hk : Keep [R, M] w5 wr) (hR : N ≠ R) (hM : N ≠ M) : wr.heap[N]? = some o :=
  (hk.block N (lt_of_block h) (by simp [hR, hM])).trans h
theorem RowAt.on {W w w' : World} {sv : Value} {rows : List (List Int)} {j b o : Nat} {vi : Value} {l : List Int} (h : RowAt W w sv rows j b o vi l) (hb : Below w.heap.size w w') (hbl : b < w.heap.size) : RowAt W w' sv rows j b o vi l :=
  { h with
    cell := (hb.cell (p := ⟨b, o + j, none⟩) hbl).trans h.cell
    ints := h.ints.kept2 (Keep.of_below (S := []) hb) (fun x hx => by cases hx) }
set_option maxRecDepth 100000 in
set_option maxHeartbeats 4000000 in
theorem stays_any {W : World} {funs : List FN} {nf : Nat} {fv sv : Value} {rows : List (List Int)} (hE : ErrV W) (hrep : RepV (RepF W nf) 6 W fv funs) (hsc : RepV (RRow W) 1 W sv rows) :
    Calls Tryz.prog 5 #[.agg #[fv], sv] W (RetB (.bool true) W) := by
  obtain ⟨A, c, rfl, hc1, hc2, hfl⟩ := hrep.sl
  obtain ⟨Av, cv, rfl, hv1, hv2, hvl⟩ := hsc.sl
  have HREP := Lib.hid hrep
  have HSC := Lib.hid hsc
  have HE := Lib.hid hE
  clear hrep hsc hE
  go_enter Tryz.func5, Tryz.ntmps5
  go_wp2_with fail
  have hb0 : Below W.heap.size W (W.alloc (Obj.cells #[.slice A funs.length c] 24)) := (Below.refl _ _).alloc (Nat.le_refl _) _
  have hN0 : (W.alloc (Obj.cells #[.slice A funs.length c] 24)).heap[W.heap.size]? = some (Obj.cells #[.slice A funs.length c] 24 (0, 0)) := heap_alloc_at _ _
  refine (lives_any _ (by obtain ⟨tp, p, h⟩ := HE.out; exact ⟨tp, p, var?_alloc h⟩)).mono ?_
  rintro e w1 ⟨rfl, hb1⟩
  have HB1 := Lib.hid (hb0.trans (hb1.mono (by simp)))
  have HN1 := Lib.hid ((hb1.block _ (by simp)).trans hN0)
  have m0 := cellB' HN1.out 0 rfl
  have hl1 := lt_of_block HN1.out
  clear hb0 hN0 hb1
  go_wp2_with fail
  refine (great_any (W := W) w1 HB1.out HREP.out).mono ?_
  rintro e w2 ⟨b, rfl, hb2⟩
  have HB2 := Lib.hid (HB1.out.trans (hb2.mono HB1.out.size))
  have HN2 := Lib.hid ((hb2.block _ hl1).trans HN1.out)
  have m1 := cellB' HN2.out 0 rfl
  have hl2 := lt_of_block HN2.out
  clear hb2 m0
  cases b with
  | true =>
    go_wp2_with fail
    go_ret
    exact ⟨rfl, HB2.out⟩
  | false =>
  go_wp2_with fail
  refine (new_any w2 HB2.out HREP.out).mono ?_
  intro e w3 hP
  cases hr : rightF funs with
  | false =>
    obtain rfl := hP.field hr
    have HB3 := Lib.hid (HB2.out.trans (hP.below.mono HB2.out.size))
    clear hP
    go_wp2_with fail
    go_ret
    exact ⟨rfl, HB3.out⟩
  | true =>
  by_cases hv : 1000 < heavyV funs
  · obtain rfl := hP.bound hr hv
    have HB3 := Lib.hid (HB2.out.trans (hP.below.mono HB2.out.size))
    clear hP
    go_wp2_with fail
    go_ret
    exact ⟨rfl, HB3.out⟩
  obtain ⟨R, M, rfl, hRg, hMg, hst⟩ := hP.yes hr hv
  have HRP := Lib.hid (rightP_of hr)
  have h0 := rightF_pos hr
  have HB3 := Lib.hid (HB2.out.trans (hP.below.mono HB2.out.size))
  have HN3 := Lib.hid ((hP.below.block _ hl2).trans HN2.out)
  have HST := Lib.hid hst
  have hRl := lt_of_block hst.hR
  have hl3 := lt_of_block HN3.out
  have m2 := cellB' HN3.out 0 rfl
  clear hP hst hr hv m1
  have hz : ((funs.length : Int) == 0) = false := beq_false_of_ne (by omega)
  go_wp2_with fail
  go_loopw [7, 8] (fun t i wr => StRel W w3 R M (.slice A funs.length c) funs rows t i wr) (fun _ i _ => rows.length - (intOf i).toNat)
  case atStart => exact ⟨0, newF funs, Nat.zero_le _, rfl, rfl, newF_len HRP.out h0, HST.out, fun _ => newF_I64 funs, Keep.refl _ _⟩
  case round =>
    obtain ⟨k, r, hk, rfl, rfl, hml, hst, hmI, hkeep⟩ := hrel
    have HST := Lib.hid hst
    have HMI := Lib.hid hmI
    have HK := Lib.hid hkeep
    have HML := Lib.hid hml
    have HN := Lib.hid (keep_low HN3.out hkeep (by omega) (by omega))
    have hb : Below W.heap.size W wr := hst.below
    have HB := Lib.hid hb
    have m0 := cellB' HN.out 0 rfl
    have hNl := lt_of_block HN.out
    have hRl := lt_of_block hst.hR
    clear hst hmI hkeep hml m2 HN3
    by_cases hlt : k < rows.length
    · by_cases h20 : k < 20
      · obtain ⟨b, o, cs, vi, hsl, ha⟩ := row_at HSC.out hb hlt
        injection hsl with e1 e2 e3
        subst e1
        clear e2 e3 hb
        have HA := Lib.hid ha
        have ha0 := ha.cell
        have hal := World.block_lt_of_cell? wr _ ha0
        simp only at hal
        generalize hl : rows[k] = l at ha HA
        clear ha hl
        go_wp2_with fail
        refine (count_any HST.out).mono ?_
        rintro e w4 ⟨rfl, rfl⟩
        go_wp2_with fail
        refine (defined_any HST.out).mono ?_
        rintro e w4 ⟨rfl, hb4⟩
        have H4 := Lib.hid (HST.out.later hb4)
        have HB4 := Lib.hid hb4
        have HN4 := Lib.hid ((hb4.block _ hNl).trans HN.out)
        have ha4 := (hb4.cell (p := ⟨b, o + k, none⟩) hal).trans ha0
        have hal4 : b < w4.heap.size := Nat.lt_of_lt_of_le hal hb4.size
        have hra : RowAt W w4 (.slice (some ⟨b, o, none⟩) rows.length cv) rows k b o vi l := HA.out.on hb4 hal
        have HRA := Lib.hid hra
        clear hb4 ha0 hra
        go_wp2_with fail
        refine (row_step HREP.out HRP.out h0 H4.out HMI.out HRA.out).mono ?_
        rintro e w5 ⟨⟨lv, rfl, hown⟩, hk5, hst5, hmI5⟩
        have HQ := Lib.hid (stepF_facts funs r l)
        have HML5 := Lib.hid ((stepF_memlen HRP.out h0 r l).trans HML.out)
        generalize stepF funs r l = q at hown hst5 hmI5 HQ HML5
        obtain ⟨r', out, g⟩ := q
        simp only at hown hst5 hmI5 HQ HML5
        obtain ⟨A5, c5, hv5, -⟩ := ints_of_own hown
        subst hv5
        have HST5 := Lib.hid hst5
        have HMI5 := Lib.hid hmI5
        have HK5 := Lib.hid (HK.out.trans ((Keep.of_below HB4.out).trans hk5))
        have HN5 := Lib.hid ((hk5.block _ (lt_of_block HN4.out) (by simp; omega)).trans HN4.out)
        have hb5 : Below W.heap.size W w5 := hst5.below
        have HB5 := Lib.hid hb5
        obtain ⟨bf, off, cf', _, _, _, _, _, _, _, _, _, _, hsl, -, hbW, -, -, kx2, -, -, -, -⟩ := fn_cells HREP.out hb5 (k := lastF funs) (by unfold lastF; omega) rfl
        injection hsl with e1 e2 e3
        subst e1 e3
        clear e2 hb5
        have hcl := HRP.out.cells (lastF funs) (by unfold lastF; omega)
        have hlc : ((funs.getD (lastF funs) default).cells : Int) = (r'.mem.length : Int) := by rw [HML5.out]; unfold lastCells; omega
        rw [hlc, show lastF funs = funs.length - 1 from rfl] at kx2
        have hbfl : bf < w5.heap.size := by have := HB5.out.size; omega
        have hNl5 := lt_of_block HN5.out
        have n5 := cellB' HN5.out 0 rfl
        have hRl5 := lt_of_block hst5.hR
        have e4 : (funs.length : Int) - 1 = ((funs.length - 1 : Nat) : Int) := by omega
        have d5 : ((r'.mem.length : Int) != (r'.mem.length : Int)) = false := by simp
        clear hown hk5 hst5 hmI5 hcl hlc ha4 m0
        go_wp2_with fail
        refine region_qtail_in (C := fun w' => Below w5.heap.size w5 w') 18 (by kernel_rfl) (by kernel_rfl) (Below.refl _ _).drew ?_
        simp only [List.take_succ_cons, List.take_zero, List.drop_succ_cons, List.drop_zero]
        go_big_quiet_step (exact fun _ => rfl)
        refine wpQuiet_step (fun K hK => ?_)
        refine bq_one (.int .i64 (r'.mem.length : Nat)) (by kernel_rfl) (fun w' hw' => ?_) ?_
        · simp [Oper.quietAt, Oper.quietUpon, execOp, go_sem]
          refine (cells_any (HST5.out.later hw')).mono ?_
          rintro e w6 ⟨rfl, hb6⟩
          exact ⟨rfl, hb6 ▸ hw'⟩
        go_simp
        refine hK _ ?_
        clear hK K
        refine wpQuiet_step (fun K hK => ?_)
        refine bq_one (.pointer (some ⟨W.heap.size, 0, none⟩)) (by kernel_rfl) (fun w' hw' => ?_) ?_
        · simp [Oper.quietAt, Oper.quietUpon, execOp, go_sem]
        go_simp
        refine hK _ ?_
        clear hK K
        refine wpQuiet_step (fun K hK => ?_)
        refine bq_one (.slice (some ⟨bf, off, none⟩) funs.length c) (by kernel_rfl) (fun w' hw' => ?_) ?_
        · have q0 := (hw'.cell (p := ⟨W.heap.size, 0, none⟩) hNl5).trans n5
          simp [Oper.quietAt, Oper.quietUpon, execOp, go_sem, q0]
        go_simp
        refine hK _ ?_
        clear hK K
        refine wpQuiet_step (fun K hK => ?_)
        refine bq_one (.pointer (some ⟨W.heap.size, 0, none⟩)) (by kernel_rfl) (fun w' hw' => ?_) ?_
        · simp [Oper.quietAt, Oper.quietUpon, execOp, go_sem]
        go_simp
        refine hK _ ?_
        clear hK K
        refine wpQuiet_step (fun K hK => ?_)
        refine bq_one (.slice (some ⟨bf, off, none⟩) funs.length c) (by kernel_rfl) (fun w' hw' => ?_) ?_
        · have q0 := (hw'.cell (p := ⟨W.heap.size, 0, none⟩) hNl5).trans n5
          simp [Oper.quietAt, Oper.quietUpon, execOp, go_sem, q0]
        go_simp
        refine hK _ ?_
        clear hK K
        go_big_quiet_step (exact fun _ => rfl)
        go_big_quiet_step (exact fun _ => rfl)
        refine wpQuiet_step (fun K hK => ?_)
        refine bq_one (.pointer (some ⟨bf, off + (funs.length - 1) * 6, none⟩)) (by kernel_rfl) (fun w' hw' => ?_) ?_
        · have q0 : funs.length - 1 < funs.length := by omega
          simp [q0, Oper.quietAt, Oper.quietUpon, execOp, go_sem]
        go_simp
        refine hK _ ?_
        clear hK K
        refine wpQuiet_step (fun K hK => ?_)
        refine bq_one (.pointer (some ⟨bf, off + (funs.length - 1) * 6 + 2, none⟩)) (by kernel_rfl) (fun w' hw' => ?_) ?_
        · simp [Oper.quietAt, Oper.quietUpon, execOp, go_sem]
        go_simp
        refine hK _ ?_
        clear hK K
        refine wpQuiet_step (fun K hK => ?_)
        refine bq_one (.int .i64 (r'.mem.length : Nat)) (by kernel_rfl) (fun w' hw' => ?_) ?_
        · have q0 := (hw'.cell (p := ⟨bf, off + (funs.length - 1) * 6 + 2, none⟩) hbfl).trans kx2
          simp [Oper.quietAt, Oper.quietUpon, execOp, go_sem, q0]
        go_simp
        refine hK _ ?_
        clear hK K
        go_big_quiet_step (exact fun _ => rfl)
        go_big_quiet_step (exact fun _ => rfl)
        go_big_quiet_step (exact fun _ => rfl)
        refine wpQuiet_step (fun K hK => ?_)
        refine bq_one (.int .i64 (definedF r'.mem : Nat)) (by kernel_rfl) (fun w' hw' => ?_) ?_
        · simp [Oper.quietAt, Oper.quietUpon, execOp, go_sem]
          refine (defined_any (HST5.out.later hw')).mono ?_
          rintro e w6 ⟨rfl, hb6⟩
          exact ⟨rfl, hw'.trans (hb6.mono hw'.size)⟩
        go_simp
        refine hK _ ?_
        clear hK K
        go_big_quiet_step (exact fun _ => rfl)
        refine wpQuiet_step (fun K hK => ?_)
        refine bq_one (.int .i64 (r'.mem.length : Nat)) (by kernel_rfl) (fun w' hw' => ?_) ?_
        · simp [Oper.quietAt, Oper.quietUpon, execOp, go_sem]
          refine (cells_any (HST5.out.later hw')).mono ?_
          rintro e w6 ⟨rfl, hb6⟩
          exact ⟨rfl, hb6 ▸ hw'⟩
        go_simp
        refine hK _ ?_
        clear hK K
        go_big_quiet_step (exact fun _ => rfl)
        refine wpQuiet_nil ?_
        intro w6 hb6
        have HST6 := Lib.hid (HST5.out.later hb6)
        have HK6 := Lib.hid (HK5.out.trans (Keep.of_below hb6))
        have HB6 := Lib.hid (HB5.out.trans (hb6.mono HB5.out.size))
        have hRl6 := lt_of_block HST6.out.hR
        have hdl := definedF_len r'.mem
        have HQ' := HQ.out
        have d6 : decide ((r'.mem.length : Int) < (definedF r'.mem : Int)) = false := by simp; omega
        clear hb6 n5 kx2 hbfl hNl5 hRl5 hal4 d5 e4
        rcases HQ'.kinds with rfl | rfl | rfl | rfl
        · have htr : r.trapped = false := by
            have := HQ'.was (by simp)
            simpa using this
          have hnow : r'.trapped = false := by
            have := HQ'.now
            rw [htr] at this
            simpa using this
          clear HQ'
          go_wp2_with fail
          refine ⟨⟨k + 1, r', hlt, by simp, by rw [hnow], HML5.out, HST6.out, HMI5.out, HK6.out⟩, by simp [intOf]; omega⟩
        · obtain rfl := HQ'.none (by simp)
          obtain rfl := HQ'.same (.inl rfl)
          clear HQ'
          go_wp2_with fail
          refine (count_any HST6.out).mono ?_
          rintro e w7 ⟨rfl, rfl⟩
          go_wp2_with fail
          refine (defined_any HST6.out).mono ?_
          rintro e w7 ⟨rfl, hb7⟩
          have HST7 := Lib.hid (HST6.out.later hb7)
          have HK7 := Lib.hid (HK6.out.trans (Keep.of_below hb7))
          clear hb7
          cases htr : r'.trapped with
          | false =>
            go_wp2_with fail
            refine ⟨⟨k + 1, r', hlt, by simp, by rw [htr], HML5.out, HST7.out, HMI5.out, HK7.out⟩, by simp [intOf]; omega⟩
          | true =>
            go_wp2_with fail
            refine ⟨⟨k + 1, r', hlt, by simp, by rw [htr], HML5.out, HST7.out, HMI5.out, HK7.out⟩, by simp [intOf]; omega⟩
        · obtain rfl := HQ'.none (by simp)
          have htr : r.trapped = false := by
            have := HQ'.was (by simp)
            simpa using this
          have hnow : r'.trapped = true := by
            have := HQ'.now
            simpa using this
          clear HQ'
          go_wp2_with fail
          refine ⟨⟨k + 1, r', hlt, by simp, by rw [hnow], HML5.out, HST6.out, HMI5.out, HK6.out⟩, by simp [intOf]; omega⟩
        · obtain rfl := HQ'.none (by simp)
          obtain rfl := HQ'.same (.inr rfl)
          have htr : r'.trapped = true := by
            have := HQ'.was (by simp)
            simpa using this
          clear HQ'
          go_wp2_with fail
          refine (count_any HST6.out).mono ?_
          rintro e w7 ⟨rfl, rfl⟩
          go_wp2_with fail
          refine (defined_any HST6.out).mono ?_
          rintro e w7 ⟨rfl, hb7⟩
          have HST7 := Lib.hid (HST6.out.later hb7)
          have HK7 := Lib.hid (HK6.out.trans (Keep.of_below hb7))
          clear hb7
          go_wp2_with fail
          refine ⟨⟨k + 1, r', hlt, by simp, by rw [htr], HML5.out, HST7.out, HMI5.out, HK7.out⟩, by simp [intOf]; omega⟩
      · clear hb
        go_wp2_with fail
        go_ret
        exact ⟨rfl, HB.out⟩
    · clear hb
      go_wp2_with fail
      go_ret
      exact ⟨rfl, HB.out⟩
end Go.Proofs.YtoaajpppbjaomaaGreatDoor
