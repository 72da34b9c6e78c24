/- Texts merged by program: parts Be. -/
import Derived.Test.YtoaajpppbjaomaaGreatDoorM09
/- Law 21: the walk of RunnerBegins. -/
namespace Go.Proofs.YtoaajpppbjaomaaGreatDoor
open Go.RowKit
/-- a script's rows and errors -/
def outsF (funs : List FN) : RS → List (List Int) → List (List Int × Int)
  | _, [] => []
  | r, l :: ls => (stepF funs r l).2 :: outsF funs (stepF funs r l).1 ls
theorem outsF_snoc (funs : List FN) : ∀ (ls : List (List Int)) (r : RS) (l : List Int), outsF funs r (ls ++ [l]) = outsF funs r ls ++ [(stepF funs (runF funs r ls) l).2]
  | [], _, _ => rfl
  | _ :: ls, _, l => by simp only [List.cons_append, outsF, runF, outsF_snoc funs ls]
theorem outsF_len (funs : List FN) : ∀ (ls : List (List Int)) (r : RS), (outsF funs r ls).length = ls.length
  | [], _ => rfl
  | _ :: ls, _ => by simp only [outsF, List.length_cons, outsF_len funs ls]
/-- a list of rows that were made -/
def Rowed (w : World) (B : Nat) (vs : List Value) (ls : List (List Int)) : Prop :=
  vs.length = ls.length ∧ ∀ (j : Nat) (v : Value) (l : List Int), vs[j]? = some v → ls[j]? = some l → w.ownsRow B 2 1 v l.length (l.map (Value.int .i64))
theorem Rowed.nil (w : World) (B : Nat) : Rowed w B [] [] := ⟨rfl, fun j v l h => by simp at h⟩
theorem Rowed.imp {w w' : World} {B : Nat} {vs : List Value} {ls : List (List Int)} (h : Rowed w B vs ls) (hi : ∀ v n xs, w.ownsRow B 2 1 v n xs → w'.ownsRow B 2 1 v n xs) : Rowed w' B vs ls :=
  ⟨h.1, fun j v l hv hl => hi _ _ _ (h.2 j v l hv hl)⟩
theorem Rowed.snoc {w : World} {B : Nat} {vs : List Value} {ls : List (List Int)} (h : Rowed w B vs ls) {v : Value} {l : List Int} (hv : w.ownsRow B 2 1 v l.length (l.map (Value.int .i64))) : Rowed w B (vs ++ [v]) (ls ++ [l]) := by
  refine ⟨by simp [h.1], fun j x y hx hy => ?_⟩
  rcases Nat.lt_or_ge j vs.length with hj | hj
  · rw [List.getElem?_append_left hj] at hx
    rw [List.getElem?_append_left (by rw [← h.1]; exact hj)] at hy
    exact h.2 j x y hx hy
  · have hj' : j - vs.length = 0 := by
      rcases Nat.eq_zero_or_pos (j - vs.length) with h0 | h0
      · exact h0
      · rw [List.getElem?_append_right hj, List.getElem?_eq_none (by simp; omega)] at hx; cases hx
    rw [List.getElem?_append_right hj, hj'] at hx
    rw [List.getElem?_append_right (by rw [← h.1]; exact hj), ← h.1, hj'] at hy
    simp at hx hy
    subst hx hy
    exact hv
/-- blocks of two kinds are two -/
theorem own_apart {w : World} {B B' : Nat} {e e' : TypeId} {sz sz' n n' : Nat} {v v' : Value} {xs xs' : List Value} (h : w.ownsRow B e sz v n xs) (h' : w.ownsRow B' e' sz' v' n' xs') (he : e ≠ e') : ∀ g, v.ownBlock = some g → v'.ownBlock ≠ some g := by
  intro g hg hg'
  rcases h.2 with ⟨rfl, _⟩ | ⟨g1, cap, cur, rfl, _, h1, _⟩
  · simp [Value.ownBlock] at hg
  rcases h'.2 with ⟨rfl, _⟩ | ⟨g2, cap', cur', rfl, _, h2, _⟩
  · simp [Value.ownBlock] at hg'
  simp only [Value.ownBlock, Option.some.injEq] at hg hg'
  subst hg hg'
  rw [h1] at h2
  simp only [Option.some.injEq, Obj.cells.injEq] at h2
  exact he h2.2.1
theorem kept_apart {w w' : World} {B B' : Nat} {e e' : TypeId} {sz sz' n n' : Nat} {v v' : Value} {xs xs' : List Value} (h : w.ownsRow B e sz v n xs) (h' : w.ownsRow B' e' sz' v' n' xs') (he : e ≠ e') (hg : w.grownBy w' v'.ownBlock) : w'.ownsRow B e sz v n xs := by
  refine h.kept hg ?_
  cases hv : v.ownBlock with
  | none => exact .inl rfl
  | some g => exact .inr (fun e1 => own_apart h h' he g hv e1.symm)
theorem Tryz.infoSl : (Tryz.prog.info? 35).map (fun i => (i.zero, i.size, i.bytes)) = some (some (.slice none 0 0), 1, 24) := by kernel_rfl
theorem Tryz.infoEr : (Tryz.prog.info? 29).map (fun i => (i.zero, i.size, i.bytes)) = some (some (.int .i64 0), 1, 8) := by kernel_rfl
theorem own_sl {w : World} {B : Nat} {e : TypeId} {sz : Nat} {v : Value} {n : Nat} {xs : List Value} (h : w.ownsRow B e sz v n xs) : ∃ A c, v = .slice A n c := by
  rcases h.2 with ⟨rfl, rfl⟩ | ⟨g, cap, cur, rfl, _⟩
  · exact ⟨_, _, rfl⟩
  · exact ⟨_, _, rfl⟩
theorem keep_grown {S : List Nat} {a w w' : World} {B : Nat} {e : TypeId} {sz n : Nat} {v : Value} {xs : List Value} (hk : Keep S a w) (h : w.ownsRow B e sz v n xs) (hB : a.heap.size ≤ B) (hg : w.grownBy w' v.ownBlock) : Keep S a w' :=
  hk.old (keep_of_grown hg) (fun x hx => by
    cases hv : v.ownBlock with
    | none => rw [hv] at hx; simp at hx
    | some g => rw [hv] at hx; simp at hx; subst hx; exact .inr (Nat.le_trans hB (h.lt _ hv).1))
theorem grow_step {W w3 w5 w6 : World} {R M : Nat} {fv : Value} {mem : Mem} {tr : Bool} {cnt : Int} {o : Obj} {e : TypeId} {sz n : Nat} {v : Value} {xs : List Value} (hv : w5.ownsRow w3.heap.size e sz v n xs) (hg : (w5.alloc o).grownBy w6 v.ownBlock)
    (hk : Keep [R, M] w3 w5) (hst : MemSt W w5 R M fv mem tr cnt) (hR : R < w3.heap.size) (hM : M < w3.heap.size) (hW : W.heap.size ≤ w3.heap.size) :
    Keep [R, M] w3 w6 ∧ MemSt W w6 R M fv mem tr cnt ∧ (∀ {e' : TypeId} {sz' n' : Nat} {v' : Value} {xs' : List Value}, e' ≠ e → w5.ownsRow w3.heap.size e' sz' v' n' xs' → w6.ownsRow w3.heap.size e' sz' v' n' xs') := by
  have hb : Below w5.heap.size w5 (w5.alloc o) := (Below.refl _ _).alloc (Nat.le_refl _) _
  refine ⟨keep_grown (hk.alloc _) (hv.alloc _) (Nat.le_refl _) hg, (hst.later hb).kept (keep_of_grown hg) (fun x hx => ?_), fun he h => kept_apart (h.alloc _) (hv.alloc _) he hg⟩
  cases hvb : v.ownBlock with
  | none => rw [hvb] at hx; simp at hx
  | some g =>
    rw [hvb] at hx
    simp at hx
    subst hx
    have := (hv.lt _ hvb).1
    omega
theorem own_max {w : World} {B : Nat} {e : TypeId} {sz : Nat} {v : Value} {n : Nat} {xs : List Value} (h : w.ownsRow B e sz v n xs) : n ≤ 9223372036854775807 := by
  rcases h.2 with ⟨rfl, rfl⟩ | ⟨g, cap, cur, rfl, _, _, h1, h2, _⟩
  · omega
  · unfold maxLen at h2; omega
def BgRel (W w3 : World) (R M : Nat) (fv : Value) (funs : List FN) (rows : List (List Int)) (vr ve i : Value) (wr : World) : Prop :=
  ∃ (k : Nat) (vs : List Value), k ≤ rows.length ∧ k ≤ 20 ∧ i = .int .i64 k ∧ MemSt W wr R M fv (runF funs (newF funs) (rows.take k)).mem (runF funs (newF funs) (rows.take k)).trapped (runF funs (newF funs) (rows.take k)).count ∧
    ((runF funs (newF funs) (rows.take k)).trapped = false → ∀ v, some v ∈ (runF funs (newF funs) (rows.take k)).mem → I64 v) ∧ Keep [R, M] w3 wr ∧
    wr.ownsRow w3.heap.size 35 1 vr k vs ∧ Rowed wr w3.heap.size vs ((outsF funs (newF funs) (rows.take k)).map (·.1)) ∧ wr.ownsRow w3.heap.size 29 1 ve k ((outsF funs (newF funs) (rows.take k)).map fun x => .int .i64 x.2)
def BgRel2 (W w3 : World) (R M : Nat) (fv : Value) (funs : List FN) (rows : List (List Int)) (k : Nat) (vs : List Value) (vr ve i : Value) (wr : World) : Prop :=
  ∃ (j : Nat), j ≤ k ∧ i = .int .i64 j ∧ MemSt W wr R M fv (runF funs (newF funs) (rows.take j)).mem (runF funs (newF funs) (rows.take j)).trapped (runF funs (newF funs) (rows.take j)).count ∧
    ((runF funs (newF funs) (rows.take j)).trapped = false → ∀ v, some v ∈ (runF funs (newF funs) (rows.take j)).mem → I64 v) ∧ Keep [R, M] w3 wr ∧
    wr.ownsRow w3.heap.size 35 1 vr k vs ∧ Rowed wr w3.heap.size vs ((outsF funs (newF funs) (rows.take k)).map (·.1)) ∧ wr.ownsRow w3.heap.size 29 1 ve k ((outsF funs (newF funs) (rows.take k)).map fun x => .int .i64 x.2)
theorem outsF_get (funs : List FN) : ∀ (ls : List (List Int)) (r : RS) (j : Nat) (l : List Int), ls[j]? = some l → (outsF funs r ls)[j]? = some (stepF funs (runF funs r (ls.take j)) l).2
  | [], _, _, _, h => by simp at h
  | a :: ls, r, 0, l, h => by simp at h; subst h; rfl
  | a :: ls, r, j + 1, l, h => by
    simp only [List.getElem?_cons_succ] at h
    simp only [outsF, List.getElem?_cons_succ, List.take_succ_cons, runF]
    exact outsF_get funs ls _ j l h
theorem own_cell {w : World} {B : Nat} {e : TypeId} {v : Value} {n : Nat} {xs : List Value} (h : w.ownsRow B e 1 v n xs) {j : Nat} {u : Value} (hj : xs[j]? = some u) : ∃ g c, v = .slice (some ⟨g, 0, none⟩) n c ∧ g < w.heap.size ∧ w.cell? ⟨g, j, none⟩ = some u := by
  rcases h.2 with ⟨rfl, rfl⟩ | ⟨g, cap, cur, rfl, _, hg, _⟩
  · have := h.1
    have h0 : xs = [] := List.length_eq_zero_iff.1 (by omega)
    subst h0
    simp at hj
  · refine ⟨g, cap, rfl, lt_of_block hg, ?_⟩
    have := h.cells (g := g) rfl j u hj
    rcases Nat.eq_zero_or_pos j with rfl | hp
    · simpa [Addr.add] using this
    · have hj0 : j ≠ 0 := by omega
      simpa [Addr.add, hj0] using this
set_option maxRecDepth 100000 in
set_option maxHeartbeats 4000000 in
theorem begins_any {W : World} {funs : List FN} {nf : Nat} {fv sv : Value} {rows : List (List Int)} (hE : ErrV W) (hrep : RepV (RepF W nf) 6 W fv funs) (hsc : RepV (RRow W) 1 W sv rows) :
    Calls Tryz.prog 4 #[.agg #[fv], sv] W (RetB (.bool true) W) := by
  obtain ⟨A, c, rfl, hc1, hc2, hfl⟩ := hrep.sl
  obtain ⟨Av, cv, rfl, hv1, hv2, hvl⟩ := hsc.sl
  have HREP := Lib.hid hrep
  have HSC := Lib.hid hsc
  have HE := Lib.hid hE
  clear hrep hsc hE
  go_enter Tryz.func4, Tryz.ntmps4
  go_wp2_with fail
  have hb0 : Below W.heap.size W (W.alloc (Obj.cells #[.slice A funs.length c] 24)) := (Below.refl _ _).alloc (Nat.le_refl _) _
  have hN0 : (W.alloc (Obj.cells #[.slice A funs.length c] 24)).heap[W.heap.size]? = some (Obj.cells #[.slice A funs.length c] 24 (0, 0)) := heap_alloc_at _ _
  refine (lives_any _ (by obtain ⟨tp, p, h⟩ := HE.out; exact ⟨tp, p, var?_alloc h⟩)).mono ?_
  rintro e w1 ⟨rfl, hb1⟩
  have HB1 := Lib.hid (hb0.trans (hb1.mono (by simp)))
  have HN1 := Lib.hid ((hb1.block _ (by simp)).trans hN0)
  have m0 := cellB' HN1.out 0 rfl
  have hl1 := lt_of_block HN1.out
  clear hb0 hN0 hb1
  go_wp2_with fail
  refine (great_any (W := W) w1 HB1.out HREP.out).mono ?_
  rintro e w2 ⟨b, rfl, hb2⟩
  have HB2 := Lib.hid (HB1.out.trans (hb2.mono HB1.out.size))
  have HN2 := Lib.hid ((hb2.block _ hl1).trans HN1.out)
  have m1 := cellB' HN2.out 0 rfl
  have hl2 := lt_of_block HN2.out
  clear hb2 m0
  cases b with
  | true =>
    go_wp2_with fail
    go_ret
    exact ⟨rfl, HB2.out⟩
  | false =>
  go_wp2_with fail
  refine (new_any w2 HB2.out HREP.out).mono ?_
  intro e w2' hP
  cases hr : rightF funs with
  | false =>
    obtain rfl := hP.field hr
    have HB3 := Lib.hid (HB2.out.trans (hP.below.mono HB2.out.size))
    clear hP
    go_wp2_with fail
    go_ret
    exact ⟨rfl, HB3.out⟩
  | true =>
  by_cases hv : 1000 < heavyV funs
  · obtain rfl := hP.bound hr hv
    have HB3 := Lib.hid (HB2.out.trans (hP.below.mono HB2.out.size))
    clear hP
    go_wp2_with fail
    go_ret
    exact ⟨rfl, HB3.out⟩
  obtain ⟨R, M, rfl, hRg, hMg, hst⟩ := hP.yes hr hv
  have HRP := Lib.hid (rightP_of hr)
  have h0 := rightF_pos hr
  have HB2' := Lib.hid (HB2.out.trans (hP.below.mono HB2.out.size))
  have HST2 := Lib.hid hst
  have hRl2 := lt_of_block hst.hR
  have hRW := hst.geR
  have hMW := hst.geM
  clear hP hst hr hv m1
  go_wp2_with fail
  refine (defined_any HST2.out).mono ?_
  rintro e w3 ⟨rfl, hb3⟩
  have HST := Lib.hid (HST2.out.later hb3)
  have HB3 := Lib.hid (HB2'.out.trans (hb3.mono HB2'.out.size))
  have hRl := lt_of_block HST.out.hR
  have hMl := lt_of_block HST.out.hM
  have hWl := HB3.out.size
  clear hb3
  go_wp2_with fail
  go_loopw [8, 9, 10] (fun vr ve i wr => BgRel W w3 R M (.slice A funs.length c) funs rows vr ve i wr) (fun _ _ i _ => rows.length - (intOf i).toNat)
  case atStart => exact ⟨0, [], Nat.zero_le _, by omega, rfl, HST.out, fun _ => newF_I64 funs, Keep.refl _ _, World.ownsRow_nil _ _ _ _, Rowed.nil _ _, World.ownsRow_nil _ _ _ _⟩
  case round =>
    obtain ⟨k, vs, hk, hk20, rfl, hst, hmI, hkeep, hvr, hrw, hve⟩ := hrel
    have HSTR := Lib.hid hst
    have HMI := Lib.hid hmI
    have HK := Lib.hid hkeep
    have HVR := Lib.hid hvr
    have HRW := Lib.hid hrw
    have HVE := Lib.hid hve
    have hb : Below W.heap.size W wr := hst.below
    have HB := Lib.hid hb
    have hRlr := lt_of_block hst.hR
    have hMlr := lt_of_block hst.hM
    have hsz := hkeep.size
    have hxl := outsF_len funs (rows.take k) (newF funs)
    rw [List.length_take, Nat.min_eq_left hk] at hxl
    clear hst hmI hkeep hvr hrw hve
    by_cases hlt : k < rows.length
    · by_cases h20 : k < 20
      · obtain ⟨b, o, cs, vi, hsl, ha⟩ := row_at HSC.out hb hlt
        injection hsl with e1 e2 e3
        subst e1
        clear e2 e3 hb
        have HA := Lib.hid ha
        have ha0 := ha.cell
        have hal := World.block_lt_of_cell? wr _ ha0
        have HT := Lib.hid (take_snoc' (List.getElem?_eq_getElem hlt))
        simp only at hal
        generalize rows[k] = l at ha HA HT
        clear ha
        generalize hrk : runF funs (newF funs) (rows.take k) = r at HSTR HMI
        have HR1 := Lib.hid (show runF funs (newF funs) (rows.take (k + 1)) = (stepF funs r l).1 by rw [HT.out, runF_snoc, hrk])
        have HO1 := Lib.hid (show outsF funs (newF funs) (rows.take (k + 1)) = outsF funs (newF funs) (rows.take k) ++ [(stepF funs r l).2] by rw [HT.out, outsF_snoc, hrk])
        clear hrk
        generalize hou : outsF funs (newF funs) (rows.take k) = ou at HRW HVE HO1 hxl
        clear hou HT
        go_wp2_with fail
        refine (row_step HREP.out HRP.out h0 HSTR.out HMI.out HA.out).mono ?_
        rintro e w5 ⟨⟨lv, rfl, hown⟩, hk5, hst5, hmI5⟩
        generalize stepF funs r l = q at hown hst5 hmI5 HR1 HO1
        obtain ⟨r', out, g⟩ := q
        simp only at hown hst5 hmI5 HR1 HO1
        obtain ⟨A5, c5, hv5, -⟩ := ints_of_own hown
        subst hv5
        have hs5 := hk5.size
        have hBR : ∀ x, x ∈ [R, M] → x < w3.heap.size := fun x hx => by simp at hx; omega
        have HST5 := Lib.hid hst5
        have HMI5 := Lib.hid hmI5
        have HK5 := Lib.hid (HK.out.trans hk5)
        have HL5 := Lib.hid (own_weaken hown hsz)
        have HVR5 := Lib.hid (own_keep HVR.out hk5 hBR)
        have HRW5 := Lib.hid (HRW.out.imp (w' := w5) (fun v n xs h => own_keep h hk5 hBR))
        have HVE5 := Lib.hid (own_keep HVE.out hk5 hBR)
        have hRl5 := lt_of_block hst5.hR
        have hMl5 := lt_of_block hst5.hM
        obtain ⟨Avr, cvr, hvr'⟩ := own_sl HVR5.out
        obtain ⟨Ave, cve, hve'⟩ := own_sl HVE5.out
        subst hvr' hve'
        clear hown hk5 hst5 hmI5 ha0 hal hBR
        have hsz5 : w3.heap.size ≤ w5.heap.size := by omega
        have hnw : (w5.alloc (Obj.cells #[Value.slice A5 out.length c5] 35)).cell? ((⟨w5.heap.size, 0, none⟩ : Addr).add 0) = some (Value.slice A5 out.length c5) := by
          have := cellB' (heap_alloc_at w5 (Obj.cells #[Value.slice A5 out.length c5] 35)) 0 rfl
          exact this
        go_wp2_with (at_builtin; go_loud (refine append_one rfl (.tmp 50) (.tmp 52) rfl Tryz.underlying25 (by decide) Tryz.infoSl rfl w3.heap.size _ k _ rfl (HVR5.out.alloc _) ⟨w5.heap.size, 0, none⟩ (Value.slice A5 out.length c5) rfl rfl hnw (by omega) (by simp; omega) ?_))
        intro vr' w6 hvr6 hgr6 hfr6
        obtain ⟨hk6, hst6, hap6⟩ := grow_step HVR5.out hgr6 HK5.out HST5.out hRl hMl hWl
        have HL6 := Lib.hid (hap6 (by decide) HL5.out)
        have HRW6 := Lib.hid (HRW5.out.imp (fun v n xs h => hap6 (by decide) h))
        have HVE6 := Lib.hid (hap6 (by decide) HVE5.out)
        have HVR6 := Lib.hid hvr6
        have HK6 := Lib.hid hk6
        have HST6 := Lib.hid hst6
        have hs6 := hk6.size
        clear hk6 hst6 hap6 hgr6 hfr6 hvr6 hnw
        have hnw : (w6.alloc (Obj.cells #[Value.int IntKind.i64 g] 29)).cell? ((⟨w6.heap.size, 0, none⟩ : Addr).add 0) = some (Value.int IntKind.i64 g) := by
          have := cellB' (heap_alloc_at w6 (Obj.cells #[Value.int IntKind.i64 g] 29)) 0 rfl
          exact this
        go_wp2_with (at_builtin; go_loud (refine append_one rfl (.tmp 54) (.tmp 56) rfl Tryz.underlying44 (by decide) Tryz.infoEr rfl w3.heap.size _ k _ rfl (HVE6.out.alloc _) ⟨w6.heap.size, 0, none⟩ (Value.int .i64 g) rfl rfl hnw (by omega) (by simp; omega) ?_))
        intro ve' w7 hve7 hgr7 hfr7
        obtain ⟨hk7, hst7, hap7⟩ := grow_step HVE6.out hgr7 HK6.out HST6.out hRl hMl hWl
        have HL7 := Lib.hid (hap7 (by decide) HL6.out)
        have HRW7 := Lib.hid (HRW6.out.imp (fun v n xs h => hap7 (by decide) h))
        have HVR7 := Lib.hid (hap7 (by decide) HVR6.out)
        have HVE7 := Lib.hid hve7
        have HK7 := Lib.hid hk7
        have HST7 := Lib.hid hst7
        clear hk7 hst7 hap7 hgr7 hfr7 hve7 hnw
        go_wp2_with fail
        refine ⟨⟨k + 1, vs ++ [Value.slice A5 out.length c5], hlt, by omega, by simp, by rw [HR1.out]; exact HST7.out, by rw [HR1.out]; exact HMI5.out, HK7.out, HVR7.out, ?_, ?_⟩, by simp [intOf]; omega⟩
        · rw [HO1.out, List.map_append]
          exact HRW7.out.snoc HL7.out
        · rw [HO1.out, List.map_append]
          exact HVE7.out
      · clear hb
        have HRL := Lib.hid ((runF_len HRP.out h0 (rows.take k) (newF funs)).trans (newF_len HRP.out h0))
        have HBN := Lib.hid (show anewF funs funs.length (lastF funs) 0 (runF funs (newF funs) (rows.take k)).mem = (newF funs).mem from congrArg RS.mem (beginF_new h0 HRL.out))
        generalize runF funs (newF funs) (rows.take k) = r at HSTR HMI HRL HBN
        go_wp2_with fail
        refine (begin_any HREP.out HRP.out h0 HSTR.out (by rw [HRL.out]; exact Nat.le_refl _)).mono ?_
        rintro e w5 ⟨rfl, hk5, hst5⟩
        rw [HBN.out] at hst5
        have hBR : ∀ x, x ∈ [R, M] → x < w3.heap.size := fun x hx => by simp at hx; omega
        have HST5 := Lib.hid hst5
        have HK5 := Lib.hid (HK.out.trans hk5)
        have HVR5 := Lib.hid (own_keep HVR.out hk5 hBR)
        have HRW5 := Lib.hid (HRW.out.imp (w' := w5) (fun v n xs h => own_keep h hk5 hBR))
        have HVE5 := Lib.hid (own_keep HVE.out hk5 hBR)
        have hRl5 := lt_of_block hst5.hR
        have hMl5 := lt_of_block hst5.hM
        clear hk5 hst5 hBR
        go_wp2_with fail
        refine (count_any HST5.out).mono ?_
        rintro e w6 ⟨rfl, rfl⟩
        go_wp2_with fail
        refine (defined_any HST5.out).mono ?_
        rintro e w6 ⟨rfl, hb6⟩
        have HST6 := Lib.hid (HST5.out.later hb6)
        have HK6 := Lib.hid (HK5.out.trans (Keep.of_below hb6))
        have HVR6 := Lib.hid (own_keep HVR5.out (Keep.of_below (S := []) hb6) (fun x hx => by cases hx))
        have HRW6 := Lib.hid (HRW5.out.imp (w' := w6) (fun v n xs h => own_keep h (Keep.of_below (S := []) hb6) (fun x hx => by cases hx)))
        have HVE6 := Lib.hid (own_keep HVE5.out (Keep.of_below (S := []) hb6) (fun x hx => by cases hx))
        have hRl6 := lt_of_block HST6.out.hR
        have hMl6 := lt_of_block HST6.out.hM
        obtain ⟨Avr, cvr, hvr'⟩ := own_sl HVR6.out
        obtain ⟨Ave, cve, hve'⟩ := own_sl HVE6.out
        subst hvr' hve'
        have d6 : ((definedF (newF funs).mem : Int) != (definedF (newF funs).mem : Int)) = false := by simp
        clear hb6
        go_wp2_with fail
        go_loopw [13] (fun i wr => BgRel2 W w3 R M (.slice A funs.length c) funs rows k vs (.slice Avr k cvr) (.slice Ave k cve) i wr) (fun i _ => k - (intOf i).toNat)
        case atStart => exact ⟨0, Nat.zero_le _, rfl, HST6.out, fun _ => newF_I64 funs, HK6.out, HVR6.out, HRW6.out, HVE6.out⟩
        case round =>
          obtain ⟨j, hj, rfl, hst7, hmI7, hk7, hvr7, hrw7, hve7⟩ := hrel
          have HST7 := Lib.hid hst7
          have HMI7 := Lib.hid hmI7
          have HK7 := Lib.hid hk7
          have HVR7 := Lib.hid hvr7
          have HRW7 := Lib.hid hrw7
          have HVE7 := Lib.hid hve7
          have hRl7 := lt_of_block hst7.hR
          have hMl7 := lt_of_block hst7.hM
          have hb7 : Below W.heap.size W wr := hst7.below
          have HB7 := Lib.hid hb7
          clear hst7 hmI7 hk7 hvr7 hrw7 hve7
          by_cases hjl : j < k
          · have hjr : j < rows.length := by omega
            obtain ⟨b, o, cs, vi, hsl, ha⟩ := row_at HSC.out hb7 hjr
            injection hsl with e1 e2 e3
            subst e1
            clear e2 e3 hb7
            have HA := Lib.hid ha
            have ha0 := ha.cell
            have hal := World.block_lt_of_cell? wr _ ha0
            simp only at hal
            have hgj := List.getElem?_eq_getElem hjr
            have hou := outsF_get funs (rows.take k) (newF funs) j rows[j] (by rw [List.getElem?_take, if_pos hjl]; exact hgj)
            rw [List.take_take, Nat.min_eq_left hj] at hou
            have HT := Lib.hid (take_snoc' hgj)
            have hvj : vs[j]? = some (vs[j]'(by rw [HRW7.out.1, List.length_map, outsF_len, List.length_take]; omega)) := List.getElem?_eq_getElem _
            generalize vs[j]'(by rw [HRW7.out.1, List.length_map, outsF_len, List.length_take]; omega) = vj at hvj
            generalize rows[j] = l at ha HA HT hou
            clear ha hgj
            generalize hrk : runF funs (newF funs) (rows.take j) = r7 at HST7 HMI7 hou
            have HR1 := Lib.hid (show runF funs (newF funs) (rows.take (j + 1)) = (stepF funs r7 l).1 by rw [HT.out, runF_snoc, hrk])
            clear hrk HT
            have HOU := Lib.hid hou
            have HVJ := Lib.hid hvj
            clear hou hvj
            go_wp2_with fail
            refine (row_step HREP.out HRP.out h0 HST7.out HMI7.out HA.out).mono ?_
            rintro e w8 ⟨⟨lv, rfl, hown⟩, hk8, hst8, hmI8⟩
            generalize stepF funs r7 l = q at hown hst8 hmI8 HR1 HOU
            obtain ⟨r', out, g⟩ := q
            simp only at hown hst8 hmI8 HR1 HOU
            have hil := ints_of_own hown
            have hBR : ∀ x, x ∈ [R, M] → x < w3.heap.size := fun x hx => by simp at hx; omega
            have HST8 := Lib.hid hst8
            have HMI8 := Lib.hid hmI8
            have HK8 := Lib.hid (HK7.out.trans hk8)
            have HVR8 := Lib.hid (own_keep HVR7.out hk8 hBR)
            have HRW8 := Lib.hid (HRW7.out.imp (w' := w8) (fun v n xs h => own_keep h hk8 hBR))
            have HVE8 := Lib.hid (own_keep HVE7.out hk8 hBR)
            have hRl8 := lt_of_block hst8.hR
            have hMl8 := lt_of_block hst8.hM
            obtain ⟨gr, cr, hvr, hgr, hcr⟩ := own_cell HVR8.out HVJ.out
            obtain ⟨ge, ce, hve, hge, hce⟩ := own_cell HVE8.out (j := j) (u := .int .i64 g) (by rw [List.getElem?_map, HOU.out]; rfl)
            have hij := ints_of_own (HRW8.out.2 j vj out HVJ.out (by rw [List.getElem?_map, HOU.out]; rfl))
            injection hvr with e1 e2 e3
            injection hve with e4 e5 e6
            subst e1 e3 e4 e6
            clear e2 e5
            have HIL := Lib.hid hil
            have HIJ := Lib.hid hij
            obtain ⟨A8, c8, rfl, -⟩ := hil
            obtain ⟨A9, c9, rfl, -⟩ := hij
            have hol := own_max hown
            clear hown hk8 hst8 hmI8 hBR ha0 hal
            go_wp2_with fail
            refine (same_longs HIL.out HIJ.out hol).mono ?_
            rintro e w9 ⟨rfl, hb9⟩
            rw [decide_eq_true (rfl : out = out)]
            have HST9 := Lib.hid (HST8.out.later hb9)
            have HK9 := Lib.hid (HK8.out.trans (Keep.of_below hb9))
            have HVR9 := Lib.hid (own_keep HVR8.out (Keep.of_below (S := []) hb9) (fun x hx => by cases hx))
            have HRW9 := Lib.hid (HRW8.out.imp (w' := w9) (fun v n xs h => own_keep h (Keep.of_below (S := []) hb9) (fun x hx => by cases hx)))
            have HVE9 := Lib.hid (own_keep HVE8.out (Keep.of_below (S := []) hb9) (fun x hx => by cases hx))
            clear hb9 hcr hce
            go_wp2_with fail
            refine ⟨⟨j + 1, hjl, by simp, by rw [HR1.out]; exact HST9.out, by rw [HR1.out]; exact HMI8.out, HK9.out, HVR9.out, HRW9.out, HVE9.out⟩, by simp [intOf]; omega⟩
          · obtain rfl : j = k := by omega
            clear hb7
            go_wp2_with fail
            go_ret
            exact ⟨rfl, HB7.out⟩
    · clear hb
      have HRL := Lib.hid ((runF_len HRP.out h0 (rows.take k) (newF funs)).trans (newF_len HRP.out h0))
      have HBN := Lib.hid (show anewF funs funs.length (lastF funs) 0 (runF funs (newF funs) (rows.take k)).mem = (newF funs).mem from congrArg RS.mem (beginF_new h0 HRL.out))
      generalize runF funs (newF funs) (rows.take k) = r at HSTR HMI HRL HBN
      go_wp2_with fail
      refine (begin_any HREP.out HRP.out h0 HSTR.out (by rw [HRL.out]; exact Nat.le_refl _)).mono ?_
      rintro e w5 ⟨rfl, hk5, hst5⟩
      rw [HBN.out] at hst5
      have hBR : ∀ x, x ∈ [R, M] → x < w3.heap.size := fun x hx => by simp at hx; omega
      have HST5 := Lib.hid hst5
      have HK5 := Lib.hid (HK.out.trans hk5)
      have HVR5 := Lib.hid (own_keep HVR.out hk5 hBR)
      have HRW5 := Lib.hid (HRW.out.imp (w' := w5) (fun v n xs h => own_keep h hk5 hBR))
      have HVE5 := Lib.hid (own_keep HVE.out hk5 hBR)
      have hRl5 := lt_of_block hst5.hR
      have hMl5 := lt_of_block hst5.hM
      clear hk5 hst5 hBR
      go_wp2_with fail
      refine (count_any HST5.out).mono ?_
      rintro e w6 ⟨rfl, rfl⟩
      go_wp2_with fail
      refine (defined_any HST5.out).mono ?_
      rintro e w6 ⟨rfl, hb6⟩
      have HST6 := Lib.hid (HST5.out.later hb6)
      have HK6 := Lib.hid (HK5.out.trans (Keep.of_below hb6))
      have HVR6 := Lib.hid (own_keep HVR5.out (Keep.of_below (S := []) hb6) (fun x hx => by cases hx))
      have HRW6 := Lib.hid (HRW5.out.imp (w' := w6) (fun v n xs h => own_keep h (Keep.of_below (S := []) hb6) (fun x hx => by cases hx)))
      have HVE6 := Lib.hid (own_keep HVE5.out (Keep.of_below (S := []) hb6) (fun x hx => by cases hx))
      have hRl6 := lt_of_block HST6.out.hR
      have hMl6 := lt_of_block HST6.out.hM
      obtain ⟨Avr, cvr, hvr'⟩ := own_sl HVR6.out
      obtain ⟨Ave, cve, hve'⟩ := own_sl HVE6.out
      subst hvr' hve'
      have d6 : ((definedF (newF funs).mem : Int) != (definedF (newF funs).mem : Int)) = false := by simp
      clear hb6
      go_wp2_with fail
      go_loopw [13] (fun i wr => BgRel2 W w3 R M (.slice A funs.length c) funs rows k vs (.slice Avr k cvr) (.slice Ave k cve) i wr) (fun i _ => k - (intOf i).toNat)
      case atStart => exact ⟨0, Nat.zero_le _, rfl, HST6.out, fun _ => newF_I64 funs, HK6.out, HVR6.out, HRW6.out, HVE6.out⟩
      case round =>
        obtain ⟨j, hj, rfl, hst7, hmI7, hk7, hvr7, hrw7, hve7⟩ := hrel
        have HST7 := Lib.hid hst7
        have HMI7 := Lib.hid hmI7
        have HK7 := Lib.hid hk7
        have HVR7 := Lib.hid hvr7
        have HRW7 := Lib.hid hrw7
        have HVE7 := Lib.hid hve7
        have hRl7 := lt_of_block hst7.hR
        have hMl7 := lt_of_block hst7.hM
        have hb7 : Below W.heap.size W wr := hst7.below
        have HB7 := Lib.hid hb7
        clear hst7 hmI7 hk7 hvr7 hrw7 hve7
        by_cases hjl : j < k
        · have hjr : j < rows.length := by omega
          obtain ⟨b, o, cs, vi, hsl, ha⟩ := row_at HSC.out hb7 hjr
          injection hsl with e1 e2 e3
          subst e1
          clear e2 e3 hb7
          have HA := Lib.hid ha
          have ha0 := ha.cell
          have hal := World.block_lt_of_cell? wr _ ha0
          simp only at hal
          have hgj := List.getElem?_eq_getElem hjr
          have hou := outsF_get funs (rows.take k) (newF funs) j rows[j] (by rw [List.getElem?_take, if_pos hjl]; exact hgj)
          rw [List.take_take, Nat.min_eq_left hj] at hou
          have HT := Lib.hid (take_snoc' hgj)
          have hvj : vs[j]? = some (vs[j]'(by rw [HRW7.out.1, List.length_map, outsF_len, List.length_take]; omega)) := List.getElem?_eq_getElem _
          generalize vs[j]'(by rw [HRW7.out.1, List.length_map, outsF_len, List.length_take]; omega) = vj at hvj
          generalize rows[j] = l at ha HA HT hou
          clear ha hgj
          generalize hrk : runF funs (newF funs) (rows.take j) = r7 at HST7 HMI7 hou
          have HR1 := Lib.hid (show runF funs (newF funs) (rows.take (j + 1)) = (stepF funs r7 l).1 by rw [HT.out, runF_snoc, hrk])
          clear hrk HT
          have HOU := Lib.hid hou
          have HVJ := Lib.hid hvj
          clear hou hvj
          go_wp2_with fail
          refine (row_step HREP.out HRP.out h0 HST7.out HMI7.out HA.out).mono ?_
          rintro e w8 ⟨⟨lv, rfl, hown⟩, hk8, hst8, hmI8⟩
          generalize stepF funs r7 l = q at hown hst8 hmI8 HR1 HOU
          obtain ⟨r', out, g⟩ := q
          simp only at hown hst8 hmI8 HR1 HOU
          have hil := ints_of_own hown
          have hBR : ∀ x, x ∈ [R, M] → x < w3.heap.size := fun x hx => by simp at hx; omega
          have HST8 := Lib.hid hst8
          have HMI8 := Lib.hid hmI8
          have HK8 := Lib.hid (HK7.out.trans hk8)
          have HVR8 := Lib.hid (own_keep HVR7.out hk8 hBR)
          have HRW8 := Lib.hid (HRW7.out.imp (w' := w8) (fun v n xs h => own_keep h hk8 hBR))
          have HVE8 := Lib.hid (own_keep HVE7.out hk8 hBR)
          have hRl8 := lt_of_block hst8.hR
          have hMl8 := lt_of_block hst8.hM
          obtain ⟨gr, cr, hvr, hgr, hcr⟩ := own_cell HVR8.out HVJ.out
          obtain ⟨ge, ce, hve, hge, hce⟩ := own_cell HVE8.out (j := j) (u := .int .i64 g) (by rw [List.getElem?_map, HOU.out]; rfl)
          have hij := ints_of_own (HRW8.out.2 j vj out HVJ.out (by rw [List.getElem?_map, HOU.out]; rfl))
          injection hvr with e1 e2 e3
          injection hve with e4 e5 e6
          subst e1 e3 e4 e6
          clear e2 e5
          have HIL := Lib.hid hil
          have HIJ := Lib.hid hij
          obtain ⟨A8, c8, rfl, -⟩ := hil
          obtain ⟨A9, c9, rfl, -⟩ := hij
          have hol := own_max hown
          clear hown hk8 hst8 hmI8 hBR ha0 hal
          go_wp2_with fail
          refine (same_longs HIL.out HIJ.out hol).mono ?_
          rintro e w9 ⟨rfl, hb9⟩
          rw [decide_eq_true (rfl : out = out)]
          have HST9 := Lib.hid (HST8.out.later hb9)
          have HK9 := Lib.hid (HK8.out.trans (Keep.of_below hb9))
          have HVR9 := Lib.hid (own_keep HVR8.out (Keep.of_below (S := []) hb9) (fun x hx => by cases hx))
          have HRW9 := Lib.hid (HRW8.out.imp (w' := w9) (fun v n xs h => own_keep h (Keep.of_below (S := []) hb9) (fun x hx => by cases hx)))
          have HVE9 := Lib.hid (own_keep HVE8.out (Keep.of_below (S := []) hb9) (fun x hx => by cases hx))
          clear hb9 hcr hce
          go_wp2_with fail
          refine ⟨⟨j + 1, hjl, by simp, by rw [HR1.out]; exact HST9.out, by rw [HR1.out]; exact HMI8.out, HK9.out, HVR9.out, HRW9.out, HVE9.out⟩, by simp [intOf]; omega⟩
        · obtain rfl : j = k := by omega
          clear hb7
          go_wp2_with fail
          go_ret
          exact ⟨rfl, HB7.out⟩
end Go.Proofs.YtoaajpppbjaomaaGreatDoor
