/- Texts merged by program: parts Be, Ce, Cf, Cg. -/
import Derived.Test.YtoaajpppbjaomaaGreatDoorM09
/- Law 21: the walk of RunnerBegins. -/
namespace Go.Proofs.YtoaajpppbjaomaaGreatDoor
open Go.RowKit
/-- a script's rows and errors -/
def outsF (funs : List FN) : RS → List (List Int) → List (List Int × Int)
  | _, [] => []
  | r, l :: ls => (stepF funs r l).2 :: outsF funs (stepF funs r l).1 ls
theorem outsF_snoc (funs : List FN) : ∀ (ls : List (List Int)) (r : RS) (l : List Int), outsF funs r (ls ++ [l]) = outsF funs r ls ++ [(stepF funs (runF funs r ls) l).2]
  | [], _, _ => rfl
  | _ :: ls, _, l => by simp only [List.cons_append, outsF, runF, outsF_snoc funs ls]
theorem outsF_len (funs : List FN) : ∀ (ls : List (List Int)) (r : RS), (outsF funs r ls).length = ls.length
  | [], _ => rfl
  | _ :: ls, _ => by simp only [outsF, List.length_cons, outsF_len funs ls]
/-- a list of rows that were made -/
def Rowed (w : World) (B : Nat) (vs : List Value) (ls : List (List Int)) : Prop :=
  vs.length = ls.length ∧ ∀ (j : Nat) (v : Value) (l : List Int), vs[j]? = some v → ls[j]? = some l → w.ownsRow B 2 1 v l.length (l.map (Value.int .i64))
theorem Rowed.nil (w : World) (B : Nat) : Rowed w B [] [] := ⟨rfl, fun j v l h => by simp at h⟩
theorem Rowed.imp {w w' : World} {B : Nat} {vs : List Value} {ls : List (List Int)} (h : Rowed w B vs ls) (hi : ∀ v n xs, w.ownsRow B 2 1 v n xs → w'.ownsRow B 2 1 v n xs) : Rowed w' B vs ls :=
  ⟨h.1, fun j v l hv hl => hi _ _ _ (h.2 j v l hv hl)⟩
theorem Rowed.snoc {w : World} {B : Nat} {vs : List Value} {ls : List (List Int)} (h : Rowed w B vs ls) {v : Value} {l : List Int} (hv : w.ownsRow B 2 1 v l.length (l.map (Value.int .i64))) : Rowed w B (vs ++ [v]) (ls ++ [l]) := by
  refine ⟨by simp [h.1], fun j x y hx hy => ?_⟩
  rcases Nat.lt_or_ge j vs.length with hj | hj
  · rw [List.getElem?_append_left hj] at hx
    rw [List.getElem?_append_left (by rw [← h.1]; exact hj)] at hy
    exact h.2 j x y hx hy
  · have hj' : j - vs.length = 0 := by
      rcases Nat.eq_zero_or_pos (j - vs.length) with h0 | h0
      · exact h0
      · rw [List.getElem?_append_right hj, List.getElem?_eq_none (by simp; omega)] at hx; cases hx
    rw [List.getElem?_append_right hj, hj'] at hx
    rw [List.getElem?_append_right (by rw [← h.1]; exact hj), ← h.1, hj'] at hy
    simp at hx hy
    subst hx hy
    exact hv
/-- blocks of two kinds are two -/
theorem own_apart {w : World} {B B' : Nat} {e e' : TypeId} {sz sz' n n' : Nat} {v v' : Value} {xs xs' : List Value} (h : w.ownsRow B e sz v n xs) (h' : w.ownsRow B' e' sz' v' n' xs') (he : e ≠ e') : ∀ g, v.ownBlock = some g → v'.ownBlock ≠ some g := by
  intro g hg hg'
  rcases h.2 with ⟨rfl, _⟩ | ⟨g1, cap, cur, rfl, _, h1, _⟩
  · simp [Value.ownBlock] at hg
  rcases h'.2 with ⟨rfl, _⟩ | ⟨g2, cap', cur', rfl, _, h2, _⟩
  · simp [Value.ownBlock] at hg'
  simp only [Value.ownBlock, Option.some.injEq] at hg hg'
  subst hg hg'
  rw [h1] at h2
  simp only [Option.some.injEq, Obj.cells.injEq] at h2
  exact he h2.2.1
theorem kept_apart {w w' : World} {B B' : Nat} {e e' : TypeId} {sz sz' n n' : Nat} {v v' : Value} {xs xs' : List Value} (h : w.ownsRow B e sz v n xs) (h' : w.ownsRow B' e' sz' v' n' xs') (he : e ≠ e') (hg : w.grownBy w' v'.ownBlock) : w'.ownsRow B e sz v n xs := by
  refine h.kept hg ?_
  cases hv : v.ownBlock with
  | none => exact .inl rfl
  | some g => exact .inr (fun e1 => own_apart h h' he g hv e1.symm)
theorem Tryz.infoSl : (Tryz.prog.info? 35).map (fun i => (i.zero, i.size, i.bytes)) = some (some (.slice none 0 0), 1, 24) := by kernel_rfl
theorem Tryz.infoEr : (Tryz.prog.info? 29).map (fun i => (i.zero, i.size, i.bytes)) = some (some (.int .i64 0), 1, 8) := by kernel_rfl
theorem own_sl {w : World} {B : Nat} {e : TypeId} {sz : Nat} {v : Value} {n : Nat} {xs : List Value} (h : w.ownsRow B e sz v n xs) : ∃ A c, v = .slice A n c := by
  rcases h.2 with ⟨rfl, rfl⟩ | ⟨g, cap, cur, rfl, _⟩
  · exact ⟨_, _, rfl⟩
  · exact ⟨_, _, rfl⟩
theorem keep_grown {S : List Nat} {a w w' : World} {B : Nat} {e : TypeId} {sz n : Nat} {v : Value} {xs : List Value} (hk : Keep S a w) (h : w.ownsRow B e sz v n xs) (hB : a.heap.size ≤ B) (hg : w.grownBy w' v.ownBlock) : Keep S a w' :=
  hk.old (keep_of_grown hg) (fun x hx => by
    cases hv : v.ownBlock with
    | none => rw [hv] at hx; simp at hx
    | some g => rw [hv] at hx; simp at hx; subst hx; exact .inr (Nat.le_trans hB (h.lt _ hv).1))
theorem grow_step {W w3 w5 w6 : World} {R M : Nat} {fv : Value} {mem : Mem} {tr : Bool} {cnt : Int} {o : Obj} {e : TypeId} {sz n : Nat} {v : Value} {xs : List Value} (hv : w5.ownsRow w3.heap.size e sz v n xs) (hg : (w5.alloc o).grownBy w6 v.ownBlock)
    (hk : Keep [R, M] w3 w5) (hst : MemSt W w5 R M fv mem tr cnt) (hR : R < w3.heap.size) (hM : M < w3.heap.size) (hW : W.heap.size ≤ w3.heap.size) :
    Keep [R, M] w3 w6 ∧ MemSt W w6 R M fv mem tr cnt ∧ (∀ {e' : TypeId} {sz' n' : Nat} {v' : Value} {xs' : List Value}, e' ≠ e → w5.ownsRow w3.heap.size e' sz' v' n' xs' → w6.ownsRow w3.heap.size e' sz' v' n' xs') := by
  have hb : Below w5.heap.size w5 (w5.alloc o) := (Below.refl _ _).alloc (Nat.le_refl _) _
  refine ⟨keep_grown (hk.alloc _) (hv.alloc _) (Nat.le_refl _) hg, (hst.later hb).kept (keep_of_grown hg) (fun x hx => ?_), fun he h => kept_apart (h.alloc _) (hv.alloc _) he hg⟩
  cases hvb : v.ownBlock with
  | none => rw [hvb] at hx; simp at hx
  | some g =>
    rw [hvb] at hx
    simp at hx
    subst hx
    have := (hv.lt _ hvb).1
    omega
theorem own_max {w : World} {B : Nat} {e : TypeId} {sz : Nat} {v : Value} {n : Nat} {xs : List Value} (h : w.ownsRow B e sz v n xs) : n ≤ 9223372036854775807 := by
  rcases h.2 with ⟨rfl, rfl⟩ | ⟨g, cap, cur, rfl, _, _, h1, h2, _⟩
  · omega
  · unfold maxLen at h2; omega
def BgRel (W w3 : World) (R M : Nat) (fv : Value) (funs : List FN) (rows : List (List Int)) (vr ve i : Value) (wr : World) : Prop :=
  ∃ (k : Nat) (vs : List Value), k ≤ rows.length ∧ k ≤ 20 ∧ i = .int .i64 k ∧ MemSt W wr R M fv (runF funs (newF funs) (rows.take k)).mem (runF funs (newF funs) (rows.take k)).trapped (runF funs (newF funs) (rows.take k)).count ∧
    ((runF funs (newF funs) (rows.take k)).trapped = false → ∀ v, some v ∈ (runF funs (newF funs) (rows.take k)).mem → I64 v) ∧ Keep [R, M] w3 wr ∧
    wr.ownsRow w3.heap.size 35 1 vr k vs ∧ Rowed wr w3.heap.size vs ((outsF funs (newF funs) (rows.take k)).map (·.1)) ∧ wr.ownsRow w3.heap.size 29 1 ve k ((outsF funs (newF funs) (rows.take k)).map fun x => .int .i64 x.2)
def BgRel2 (W w3 : World) (R M : Nat) (fv : Value) (funs : List FN) (rows : List (List Int)) (k : Nat) (vs : List Value) (vr ve i : Value) (wr : World) : Prop :=
  ∃ (j : Nat), j ≤ k ∧ i = .int .i64 j ∧ MemSt W wr R M fv (runF funs (newF funs) (rows.take j)).mem (runF funs (newF funs) (rows.take j)).trapped (runF funs (newF funs) (rows.take j)).count ∧
    ((runF funs (newF funs) (rows.take j)).trapped = false → ∀ v, some v ∈ (runF funs (newF funs) (rows.take j)).mem → I64 v) ∧ Keep [R, M] w3 wr ∧
    wr.ownsRow w3.heap.size 35 1 vr k vs ∧ Rowed wr w3.heap.size vs ((outsF funs (newF funs) (rows.take k)).map (·.1)) ∧ wr.ownsRow w3.heap.size 29 1 ve k ((outsF funs (newF funs) (rows.take k)).map fun x => .int .i64 x.2)
theorem outsF_get (funs : List FN) : ∀ (ls : List (List Int)) (r : RS) (j : Nat) (l : List Int), ls[j]? = some l → (outsF funs r ls)[j]? = some (stepF funs (runF funs r (ls.take j)) l).2
  | [], _, _, _, h => by simp at h
  | a :: ls, r, 0, l, h => by simp at h; subst h; rfl
  | a :: ls, r, j + 1, l, h => by
    simp only [List.getElem?_cons_succ] at h
    simp only [outsF, List.getElem?_cons_succ, List.take_succ_cons, runF]
    exact outsF_get funs ls _ j l h
theorem own_cell {w : World} {B : Nat} {e : TypeId} {v : Value} {n : Nat} {xs : List Value} (h : w.ownsRow B e 1 v n xs) {j : Nat} {u : Value} (hj : xs[j]? = some u) : ∃ g c, v = .slice (some ⟨g, 0, none⟩) n c ∧ g < w.heap.size ∧ w.cell? ⟨g, j, none⟩ = some u := by
  rcases h.2 with ⟨rfl, rfl⟩ | ⟨g, cap, cur, rfl, _, hg, _⟩
  · have := h.1
    have h0 : xs = [] := List.length_eq_zero_iff.1 (by omega)
    subst h0
    simp at hj
  · refine ⟨g, cap, rfl, lt_of_block hg, ?_⟩
    have := h.cells (g := g) rfl j u hj
    rcases Nat.eq_zero_or_pos j with rfl | hp
    · simpa [Addr.add] using this
    · have hj0 : j ≠ 0 := by omega
      simpa [Addr.add, hj0] using this
set_option maxRecDepth 100000 in
set_option maxHeartbeats 4000000 in
theorem begins_any {W : World} {funs : List FN} {nf : Nat} {fv sv : Value} {rows : List (List Int)} (hE : ErrV W) (hrep : RepV (RepF W nf) 6 W fv funs) (hsc : RepV (RRow W) 1 W sv rows) :
    Calls Tryz.prog 4 #[.agg #[fv], sv] W (RetB (.bool true) W) := by
  obtain ⟨A, c, rfl, hc1, hc2, hfl⟩ := hrep.sl
  obtain ⟨Av, cv, rfl, hv1, hv2, hvl⟩ := hsc.sl
  have HREP := Lib.hid hrep
  have HSC := Lib.hid hsc
  have HE := Lib.hid hE
  clear hrep hsc hE
  go_enter Tryz.func4, Tryz.ntmps4
  go_wp2_with fail
  have hb0 : Below W.heap.size W (W.alloc (Obj.cells #[.slice A funs.length c] 24)) := (Below.refl _ _).alloc (Nat.le_refl _) _
  have hN0 : (W.alloc (Obj.cells #[.slice A funs.length c] 24)).heap[W.heap.size]? = some (Obj.cells #[.slice A funs.length c] 24 (0, 0)) := heap_alloc_at _ _
  refine (lives_any _ (by obtain ⟨tp, p, h⟩ := HE.out; exact ⟨tp, p, var?_alloc h⟩)).mono ?_
  rintro e w1 ⟨rfl, hb1⟩
  have HB1 := Lib.hid (hb0.trans (hb1.mono (by simp)))
  have HN1 := Lib.hid ((hb1.block _ (by simp)).trans hN0)
  have m0 := cellB' HN1.out 0 rfl
  have hl1 := lt_of_block HN1.out
  clear hb0 hN0 hb1
  go_wp2_with fail
  refine (great_any (W := W) w1 HB1.out HREP.out).mono ?_
  rintro e w2 ⟨b, rfl, hb2⟩
  have HB2 := Lib.hid (HB1.out.trans (hb2.mono HB1.out.size))
  have HN2 := Lib.hid ((hb2.block _ hl1).trans HN1.out)
  have m1 := cellB' HN2.out 0 rfl
  have hl2 := lt_of_block HN2.out
  clear hb2 m0
  cases b with
  | true =>
    go_wp2_with fail
    go_ret
    exact ⟨rfl, HB2.out⟩
  | false =>
  go_wp2_with fail
  refine (new_any w2 HB2.out HREP.out).mono ?_
  intro e w2' hP
  cases hr : rightF funs with
  | false =>
    obtain rfl := hP.field hr
    have HB3 := Lib.hid (HB2.out.trans (hP.below.mono HB2.out.size))
    clear hP
    go_wp2_with fail
    go_ret
    exact ⟨rfl, HB3.out⟩
  | true =>
  by_cases hv : 1000 < heavyV funs
  · obtain rfl := hP.bound hr hv
    have HB3 := Lib.hid (HB2.out.trans (hP.below.mono HB2.out.size))
    clear hP
    go_wp2_with fail
    go_ret
    exact ⟨rfl, HB3.out⟩
  obtain ⟨R, M, rfl, hRg, hMg, hst⟩ := hP.yes hr hv
  have HRP := Lib.hid (rightP_of hr)
  have h0 := rightF_pos hr
  have HB2' := Lib.hid (HB2.out.trans (hP.below.mono HB2.out.size))
  have HST2 := Lib.hid hst
  have hRl2 := lt_of_block hst.hR
  have hRW := hst.geR
  have hMW := hst.geM
  clear hP hst hr hv m1
  go_wp2_with fail
  refine (defined_any HST2.out).mono ?_
  rintro e w3 ⟨rfl, hb3⟩
  have HST := Lib.hid (HST2.out.later hb3)
  have HB3 := Lib.hid (HB2'.out.trans (hb3.mono HB2'.out.size))
  have hRl := lt_of_block HST.out.hR
  have hMl := lt_of_block HST.out.hM
  have hWl := HB3.out.size
  clear hb3
  go_wp2_with fail
  go_loopw [8, 9, 10] (fun vr ve i wr => BgRel W w3 R M (.slice A funs.length c) funs rows vr ve i wr) (fun _ _ i _ => rows.length - (intOf i).toNat)
  case atStart => exact ⟨0, [], Nat.zero_le _, by omega, rfl, HST.out, fun _ => newF_I64 funs, Keep.refl _ _, World.ownsRow_nil _ _ _ _, Rowed.nil _ _, World.ownsRow_nil _ _ _ _⟩
  case round =>
    obtain ⟨k, vs, hk, hk20, rfl, hst, hmI, hkeep, hvr, hrw, hve⟩ := hrel
    have HSTR := Lib.hid hst
    have HMI := Lib.hid hmI
    have HK := Lib.hid hkeep
    have HVR := Lib.hid hvr
    have HRW := Lib.hid hrw
    have HVE := Lib.hid hve
    have hb : Below W.heap.size W wr := hst.below
    have HB := Lib.hid hb
    have hRlr := lt_of_block hst.hR
    have hMlr := lt_of_block hst.hM
    have hsz := hkeep.size
    have hxl := outsF_len funs (rows.take k) (newF funs)
    rw [List.length_take, Nat.min_eq_left hk] at hxl
    clear hst hmI hkeep hvr hrw hve
    by_cases hlt : k < rows.length
    · by_cases h20 : k < 20
      · obtain ⟨b, o, cs, vi, hsl, ha⟩ := row_at HSC.out hb hlt
        injection hsl with e1 e2 e3
        subst e1
        clear e2 e3 hb
        have HA := Lib.hid ha
        have ha0 := ha.cell
        have hal := World.block_lt_of_cell? wr _ ha0
        have HT := Lib.hid (take_snoc' (List.getElem?_eq_getElem hlt))
        simp only at hal
        generalize rows[k] = l at ha HA HT
        clear ha
        generalize hrk : runF funs (newF funs) (rows.take k) = r at HSTR HMI
        have HR1 := Lib.hid (show runF funs (newF funs) (rows.take (k + 1)) = (stepF funs r l).1 by rw [HT.out, runF_snoc, hrk])
        have HO1 := Lib.hid (show outsF funs (newF funs) (rows.take (k + 1)) = outsF funs (newF funs) (rows.take k) ++ [(stepF funs r l).2] by rw [HT.out, outsF_snoc, hrk])
        clear hrk
        generalize hou : outsF funs (newF funs) (rows.take k) = ou at HRW HVE HO1 hxl
        clear hou HT
        go_wp2_with fail
        refine (row_step HREP.out HRP.out h0 HSTR.out HMI.out HA.out).mono ?_
        rintro e w5 ⟨⟨lv, rfl, hown⟩, hk5, hst5, hmI5⟩
        generalize stepF funs r l = q at hown hst5 hmI5 HR1 HO1
        obtain ⟨r', out, g⟩ := q
        simp only at hown hst5 hmI5 HR1 HO1
        obtain ⟨A5, c5, hv5, -⟩ := ints_of_own hown
        subst hv5
        have hs5 := hk5.size
        have hBR : ∀ x, x ∈ [R, M] → x < w3.heap.size := fun x hx => by simp at hx; omega
        have HST5 := Lib.hid hst5
        have HMI5 := Lib.hid hmI5
        have HK5 := Lib.hid (HK.out.trans hk5)
        have HL5 := Lib.hid (own_weaken hown hsz)
        have HVR5 := Lib.hid (own_keep HVR.out hk5 hBR)
        have HRW5 := Lib.hid (HRW.out.imp (w' := w5) (fun v n xs h => own_keep h hk5 hBR))
        have HVE5 := Lib.hid (own_keep HVE.out hk5 hBR)
        have hRl5 := lt_of_block hst5.hR
        have hMl5 := lt_of_block hst5.hM
        obtain ⟨Avr, cvr, hvr'⟩ := own_sl HVR5.out
        obtain ⟨Ave, cve, hve'⟩ := own_sl HVE5.out
        subst hvr' hve'
        clear hown hk5 hst5 hmI5 ha0 hal hBR
        have hsz5 : w3.heap.size ≤ w5.heap.size := by omega
        have hnw : (w5.alloc (Obj.cells #[Value.slice A5 out.length c5] 35)).cell? ((⟨w5.heap.size, 0, none⟩ : Addr).add 0) = some (Value.slice A5 out.length c5) := by
          have := cellB' (heap_alloc_at w5 (Obj.cells #[Value.slice A5 out.length c5] 35)) 0 rfl
          exact this
        go_wp2_with (at_builtin; go_loud (refine append_one rfl (.tmp 50) (.tmp 52) rfl Tryz.underlying25 (by decide) Tryz.infoSl rfl w3.heap.size _ k _ rfl (HVR5.out.alloc _) ⟨w5.heap.size, 0, none⟩ (Value.slice A5 out.length c5) rfl rfl hnw (by omega) (by simp; omega) ?_))
        intro vr' w6 hvr6 hgr6 hfr6
        obtain ⟨hk6, hst6, hap6⟩ := grow_step HVR5.out hgr6 HK5.out HST5.out hRl hMl hWl
        have HL6 := Lib.hid (hap6 (by decide) HL5.out)
        have HRW6 := Lib.hid (HRW5.out.imp (fun v n xs h => hap6 (by decide) h))
        have HVE6 := Lib.hid (hap6 (by decide) HVE5.out)
        have HVR6 := Lib.hid hvr6
        have HK6 := Lib.hid hk6
        have HST6 := Lib.hid hst6
        have hs6 := hk6.size
        clear hk6 hst6 hap6 hgr6 hfr6 hvr6 hnw
        have hnw : (w6.alloc (Obj.cells #[Value.int IntKind.i64 g] 29)).cell? ((⟨w6.heap.size, 0, none⟩ : Addr).add 0) = some (Value.int IntKind.i64 g) := by
          have := cellB' (heap_alloc_at w6 (Obj.cells #[Value.int IntKind.i64 g] 29)) 0 rfl
          exact this
        go_wp2_with (at_builtin; go_loud (refine append_one rfl (.tmp 54) (.tmp 56) rfl Tryz.underlying44 (by decide) Tryz.infoEr rfl w3.heap.size _ k _ rfl (HVE6.out.alloc _) ⟨w6.heap.size, 0, none⟩ (Value.int .i64 g) rfl rfl hnw (by omega) (by simp; omega) ?_))
        intro ve' w7 hve7 hgr7 hfr7
        obtain ⟨hk7, hst7, hap7⟩ := grow_step HVE6.out hgr7 HK6.out HST6.out hRl hMl hWl
        have HL7 := Lib.hid (hap7 (by decide) HL6.out)
        have HRW7 := Lib.hid (HRW6.out.imp (fun v n xs h => hap7 (by decide) h))
        have HVR7 := Lib.hid (hap7 (by decide) HVR6.out)
        have HVE7 := Lib.hid hve7
        have HK7 := Lib.hid hk7
        have HST7 := Lib.hid hst7
        clear hk7 hst7 hap7 hgr7 hfr7 hve7 hnw
        go_wp2_with fail
        refine ⟨⟨k + 1, vs ++ [Value.slice A5 out.length c5], hlt, by omega, by simp, by rw [HR1.out]; exact HST7.out, by rw [HR1.out]; exact HMI5.out, HK7.out, HVR7.out, ?_, ?_⟩, by simp [intOf]; omega⟩
        · rw [HO1.out, List.map_append]
          exact HRW7.out.snoc HL7.out
        · rw [HO1.out, List.map_append]
          exact HVE7.out
      · clear hb
        have HRL := Lib.hid ((runF_len HRP.out h0 (rows.take k) (newF funs)).trans (newF_len HRP.out h0))
        have HBN := Lib.hid (show anewF funs funs.length (lastF funs) 0 (runF funs (newF funs) (rows.take k)).mem = (newF funs).mem from congrArg RS.mem (beginF_new h0 HRL.out))
        generalize runF funs (newF funs) (rows.take k) = r at HSTR HMI HRL HBN
        go_wp2_with fail
        refine (begin_any HREP.out HRP.out h0 HSTR.out (by rw [HRL.out]; exact Nat.le_refl _)).mono ?_
        rintro e w5 ⟨rfl, hk5, hst5⟩
        rw [HBN.out] at hst5
        have hBR : ∀ x, x ∈ [R, M] → x < w3.heap.size := fun x hx => by simp at hx; omega
        have HST5 := Lib.hid hst5
        have HK5 := Lib.hid (HK.out.trans hk5)
        have HVR5 := Lib.hid (own_keep HVR.out hk5 hBR)
        have HRW5 := Lib.hid (HRW.out.imp (w' := w5) (fun v n xs h => own_keep h hk5 hBR))
        have HVE5 := Lib.hid (own_keep HVE.out hk5 hBR)
        have hRl5 := lt_of_block hst5.hR
        have hMl5 := lt_of_block hst5.hM
        clear hk5 hst5 hBR
        go_wp2_with fail
        refine (count_any HST5.out).mono ?_
        rintro e w6 ⟨rfl, rfl⟩
        go_wp2_with fail
        refine (defined_any HST5.out).mono ?_
        rintro e w6 ⟨rfl, hb6⟩
        have HST6 := Lib.hid (HST5.out.later hb6)
        have HK6 := Lib.hid (HK5.out.trans (Keep.of_below hb6))
        have HVR6 := Lib.hid (own_keep HVR5.out (Keep.of_below (S := []) hb6) (fun x hx => by cases hx))
        have HRW6 := Lib.hid (HRW5.out.imp (w' := w6) (fun v n xs h => own_keep h (Keep.of_below (S := []) hb6) (fun x hx => by cases hx)))
        have HVE6 := Lib.hid (own_keep HVE5.out (Keep.of_below (S := []) hb6) (fun x hx => by cases hx))
        have hRl6 := lt_of_block HST6.out.hR
        have hMl6 := lt_of_block HST6.out.hM
        obtain ⟨Avr, cvr, hvr'⟩ := own_sl HVR6.out
        obtain ⟨Ave, cve, hve'⟩ := own_sl HVE6.out
        subst hvr' hve'
        have d6 : ((definedF (newF funs).mem : Int) != (definedF (newF funs).mem : Int)) = false := by simp
        clear hb6
        go_wp2_with fail
        go_loopw [13] (fun i wr => BgRel2 W w3 R M (.slice A funs.length c) funs rows k vs (.slice Avr k cvr) (.slice Ave k cve) i wr) (fun i _ => k - (intOf i).toNat)
        case atStart => exact ⟨0, Nat.zero_le _, rfl, HST6.out, fun _ => newF_I64 funs, HK6.out, HVR6.out, HRW6.out, HVE6.out⟩
        case round =>
          obtain ⟨j, hj, rfl, hst7, hmI7, hk7, hvr7, hrw7, hve7⟩ := hrel
          have HST7 := Lib.hid hst7
          have HMI7 := Lib.hid hmI7
          have HK7 := Lib.hid hk7
          have HVR7 := Lib.hid hvr7
          have HRW7 := Lib.hid hrw7
          have HVE7 := Lib.hid hve7
          have hRl7 := lt_of_block hst7.hR
          have hMl7 := lt_of_block hst7.hM
          have hb7 : Below W.heap.size W wr := hst7.below
          have HB7 := Lib.hid hb7
          clear hst7 hmI7 hk7 hvr7 hrw7 hve7
          by_cases hjl : j < k
          · have hjr : j < rows.length := by omega
            obtain ⟨b, o, cs, vi, hsl, ha⟩ := row_at HSC.out hb7 hjr
            injection hsl with e1 e2 e3
            subst e1
            clear e2 e3 hb7
            have HA := Lib.hid ha
            have ha0 := ha.cell
            have hal := World.block_lt_of_cell? wr _ ha0
            simp only at hal
            have hgj := List.getElem?_eq_getElem hjr
            have hou := outsF_get funs (rows.take k) (newF funs) j rows[j] (by rw [List.getElem?_take, if_pos hjl]; exact hgj)
            rw [List.take_take, Nat.min_eq_left hj] at hou
            have HT := Lib.hid (take_snoc' hgj)
            have hvj : vs[j]? = some (vs[j]'(by rw [HRW7.out.1, List.length_map, outsF_len, List.length_take]; omega)) := List.getElem?_eq_getElem _
            generalize vs[j]'(by rw [HRW7.out.1, List.length_map, outsF_len, List.length_take]; omega) = vj at hvj
            generalize rows[j] = l at ha HA HT hou
            clear ha hgj
            generalize hrk : runF funs (newF funs) (rows.take j) = r7 at HST7 HMI7 hou
            have HR1 := Lib.hid (show runF funs (newF funs) (rows.take (j + 1)) = (stepF funs r7 l).1 by rw [HT.out, runF_snoc, hrk])
            clear hrk HT
            have HOU := Lib.hid hou
            have HVJ := Lib.hid hvj
            clear hou hvj
            go_wp2_with fail
            refine (row_step HREP.out HRP.out h0 HST7.out HMI7.out HA.out).mono ?_
            rintro e w8 ⟨⟨lv, rfl, hown⟩, hk8, hst8, hmI8⟩
            generalize stepF funs r7 l = q at hown hst8 hmI8 HR1 HOU
            obtain ⟨r', out, g⟩ := q
            simp only at hown hst8 hmI8 HR1 HOU
            have hil := ints_of_own hown
            have hBR : ∀ x, x ∈ [R, M] → x < w3.heap.size := fun x hx => by simp at hx; omega
            have HST8 := Lib.hid hst8
            have HMI8 := Lib.hid hmI8
            have HK8 := Lib.hid (HK7.out.trans hk8)
            have HVR8 := Lib.hid (own_keep HVR7.out hk8 hBR)
            have HRW8 := Lib.hid (HRW7.out.imp (w' := w8) (fun v n xs h => own_keep h hk8 hBR))
            have HVE8 := Lib.hid (own_keep HVE7.out hk8 hBR)
            have hRl8 := lt_of_block hst8.hR
            have hMl8 := lt_of_block hst8.hM
            obtain ⟨gr, cr, hvr, hgr, hcr⟩ := own_cell HVR8.out HVJ.out
            obtain ⟨ge, ce, hve, hge, hce⟩ := own_cell HVE8.out (j := j) (u := .int .i64 g) (by rw [List.getElem?_map, HOU.out]; rfl)
            have hij := ints_of_own (HRW8.out.2 j vj out HVJ.out (by rw [List.getElem?_map, HOU.out]; rfl))
            injection hvr with e1 e2 e3
            injection hve with e4 e5 e6
            subst e1 e3 e4 e6
            clear e2 e5
            have HIL := Lib.hid hil
            have HIJ := Lib.hid hij
            obtain ⟨A8, c8, rfl, -⟩ := hil
            obtain ⟨A9, c9, rfl, -⟩ := hij
            have hol := own_max hown
            clear hown hk8 hst8 hmI8 hBR ha0 hal
            go_wp2_with fail
            refine (same_longs HIL.out HIJ.out hol).mono ?_
            rintro e w9 ⟨rfl, hb9⟩
            rw [decide_eq_true (rfl : out = out)]
            have HST9 := Lib.hid (HST8.out.later hb9)
            have HK9 := Lib.hid (HK8.out.trans (Keep.of_below hb9))
            have HVR9 := Lib.hid (own_keep HVR8.out (Keep.of_below (S := []) hb9) (fun x hx => by cases hx))
            have HRW9 := Lib.hid (HRW8.out.imp (w' := w9) (fun v n xs h => own_keep h (Keep.of_below (S := []) hb9) (fun x hx => by cases hx)))
            have HVE9 := Lib.hid (own_keep HVE8.out (Keep.of_below (S := []) hb9) (fun x hx => by cases hx))
            clear hb9 hcr hce
            go_wp2_with fail
            refine ⟨⟨j + 1, hjl, by simp, by rw [HR1.out]; exact HST9.out, by rw [HR1.out]; exact HMI8.out, HK9.out, HVR9.out, HRW9.out, HVE9.out⟩, by simp [intOf]; omega⟩
          · obtain rfl : j = k := by omega
            clear hb7
            go_wp2_with fail
            go_ret
            exact ⟨rfl, HB7.out⟩
    · clear hb
      have HRL := Lib.hid ((runF_len HRP.out h0 (rows.take k) (newF funs)).trans (newF_len HRP.out h0))
      have HBN := Lib.hid (show anewF funs funs.length (lastF funs) 0 (runF funs (newF funs) (rows.take k)).mem = (newF funs).mem from congrArg RS.mem (beginF_new h0 HRL.out))
      generalize runF funs (newF funs) (rows.take k) = r at HSTR HMI HRL HBN
      go_wp2_with fail
      refine (begin_any HREP.out HRP.out h0 HSTR.out (by rw [HRL.out]; exact Nat.le_refl _)).mono ?_
      rintro e w5 ⟨rfl, hk5, hst5⟩
      rw [HBN.out] at hst5
      have hBR : ∀ x, x ∈ [R, M] → x < w3.heap.size := fun x hx => by simp at hx; omega
      have HST5 := Lib.hid hst5
      have HK5 := Lib.hid (HK.out.trans hk5)
      have HVR5 := Lib.hid (own_keep HVR.out hk5 hBR)
      have HRW5 := Lib.hid (HRW.out.imp (w' := w5) (fun v n xs h => own_keep h hk5 hBR))
      have HVE5 := Lib.hid (own_keep HVE.out hk5 hBR)
      have hRl5 := lt_of_block hst5.hR
      have hMl5 := lt_of_block hst5.hM
      clear hk5 hst5 hBR
      go_wp2_with fail
      refine (count_any HST5.out).mono ?_
      rintro e w6 ⟨rfl, rfl⟩
      go_wp2_with fail
      refine (defined_any HST5.out).mono ?_
      rintro e w6 ⟨rfl, hb6⟩
      have HST6 := Lib.hid (HST5.out.later hb6)
      have HK6 := Lib.hid (HK5.out.trans (Keep.of_below hb6))
      have HVR6 := Lib.hid (own_keep HVR5.out (Keep.of_below (S := []) hb6) (fun x hx => by cases hx))
      have HRW6 := Lib.hid (HRW5.out.imp (w' := w6) (fun v n xs h => own_keep h (Keep.of_below (S := []) hb6) (fun x hx => by cases hx)))
      have HVE6 := Lib.hid (own_keep HVE5.out (Keep.of_below (S := []) hb6) (fun x hx => by cases hx))
      have hRl6 := lt_of_block HST6.out.hR
      have hMl6 := lt_of_block HST6.out.hM
      obtain ⟨Avr, cvr, hvr'⟩ := own_sl HVR6.out
      obtain ⟨Ave, cve, hve'⟩ := own_sl HVE6.out
      subst hvr' hve'
      have d6 : ((definedF (newF funs).mem : Int) != (definedF (newF funs).mem : Int)) = false := by simp
      clear hb6
      go_wp2_with fail
      go_loopw [13] (fun i wr => BgRel2 W w3 R M (.slice A funs.length c) funs rows k vs (.slice Avr k cvr) (.slice Ave k cve) i wr) (fun i _ => k - (intOf i).toNat)
      case atStart => exact ⟨0, Nat.zero_le _, rfl, HST6.out, fun _ => newF_I64 funs, HK6.out, HVR6.out, HRW6.out, HVE6.out⟩
      case round =>
        obtain ⟨j, hj, rfl, hst7, hmI7, hk7, hvr7, hrw7, hve7⟩ := hrel
        have HST7 := Lib.hid hst7
        have HMI7 := Lib.hid hmI7
        have HK7 := Lib.hid hk7
        have HVR7 := Lib.hid hvr7
        have HRW7 := Lib.hid hrw7
        have HVE7 := Lib.hid hve7
        have hRl7 := lt_of_block hst7.hR
        have hMl7 := lt_of_block hst7.hM
        have hb7 : Below W.heap.size W wr := hst7.below
        have HB7 := Lib.hid hb7
        clear hst7 hmI7 hk7 hvr7 hrw7 hve7
        by_cases hjl : j < k
        · have hjr : j < rows.length := by omega
          obtain ⟨b, o, cs, vi, hsl, ha⟩ := row_at HSC.out hb7 hjr
          injection hsl with e1 e2 e3
          subst e1
          clear e2 e3 hb7
          have HA := Lib.hid ha
          have ha0 := ha.cell
          have hal := World.block_lt_of_cell? wr _ ha0
          simp only at hal
          have hgj := List.getElem?_eq_getElem hjr
          have hou := outsF_get funs (rows.take k) (newF funs) j rows[j] (by rw [List.getElem?_take, if_pos hjl]; exact hgj)
          rw [List.take_take, Nat.min_eq_left hj] at hou
          have HT := Lib.hid (take_snoc' hgj)
          have hvj : vs[j]? = some (vs[j]'(by rw [HRW7.out.1, List.length_map, outsF_len, List.length_take]; omega)) := List.getElem?_eq_getElem _
          generalize vs[j]'(by rw [HRW7.out.1, List.length_map, outsF_len, List.length_take]; omega) = vj at hvj
          generalize rows[j] = l at ha HA HT hou
          clear ha hgj
          generalize hrk : runF funs (newF funs) (rows.take j) = r7 at HST7 HMI7 hou
          have HR1 := Lib.hid (show runF funs (newF funs) (rows.take (j + 1)) = (stepF funs r7 l).1 by rw [HT.out, runF_snoc, hrk])
          clear hrk HT
          have HOU := Lib.hid hou
          have HVJ := Lib.hid hvj
          clear hou hvj
          go_wp2_with fail
          refine (row_step HREP.out HRP.out h0 HST7.out HMI7.out HA.out).mono ?_
          rintro e w8 ⟨⟨lv, rfl, hown⟩, hk8, hst8, hmI8⟩
          generalize stepF funs r7 l = q at hown hst8 hmI8 HR1 HOU
          obtain ⟨r', out, g⟩ := q
          simp only at hown hst8 hmI8 HR1 HOU
          have hil := ints_of_own hown
          have hBR : ∀ x, x ∈ [R, M] → x < w3.heap.size := fun x hx => by simp at hx; omega
          have HST8 := Lib.hid hst8
          have HMI8 := Lib.hid hmI8
          have HK8 := Lib.hid (HK7.out.trans hk8)
          have HVR8 := Lib.hid (own_keep HVR7.out hk8 hBR)
          have HRW8 := Lib.hid (HRW7.out.imp (w' := w8) (fun v n xs h => own_keep h hk8 hBR))
          have HVE8 := Lib.hid (own_keep HVE7.out hk8 hBR)
          have hRl8 := lt_of_block hst8.hR
          have hMl8 := lt_of_block hst8.hM
          obtain ⟨gr, cr, hvr, hgr, hcr⟩ := own_cell HVR8.out HVJ.out
          obtain ⟨ge, ce, hve, hge, hce⟩ := own_cell HVE8.out (j := j) (u := .int .i64 g) (by rw [List.getElem?_map, HOU.out]; rfl)
          have hij := ints_of_own (HRW8.out.2 j vj out HVJ.out (by rw [List.getElem?_map, HOU.out]; rfl))
          injection hvr with e1 e2 e3
          injection hve with e4 e5 e6
          subst e1 e3 e4 e6
          clear e2 e5
          have HIL := Lib.hid hil
          have HIJ := Lib.hid hij
          obtain ⟨A8, c8, rfl, -⟩ := hil
          obtain ⟨A9, c9, rfl, -⟩ := hij
          have hol := own_max hown
          clear hown hk8 hst8 hmI8 hBR ha0 hal
          go_wp2_with fail
          refine (same_longs HIL.out HIJ.out hol).mono ?_
          rintro e w9 ⟨rfl, hb9⟩
          rw [decide_eq_true (rfl : out = out)]
          have HST9 := Lib.hid (HST8.out.later hb9)
          have HK9 := Lib.hid (HK8.out.trans (Keep.of_below hb9))
          have HVR9 := Lib.hid (own_keep HVR8.out (Keep.of_below (S := []) hb9) (fun x hx => by cases hx))
          have HRW9 := Lib.hid (HRW8.out.imp (w' := w9) (fun v n xs h => own_keep h (Keep.of_below (S := []) hb9) (fun x hx => by cases hx)))
          have HVE9 := Lib.hid (own_keep HVE8.out (Keep.of_below (S := []) hb9) (fun x hx => by cases hx))
          clear hb9 hcr hce
          go_wp2_with fail
          refine ⟨⟨j + 1, hjl, by simp, by rw [HR1.out]; exact HST9.out, by rw [HR1.out]; exact HMI8.out, HK9.out, HVR9.out, HRW9.out, HVE9.out⟩, by simp [intOf]; omega⟩
        · obtain rfl : j = k := by omega
          clear hb7
          go_wp2_with fail
          go_ret
          exact ⟨rfl, HB7.out⟩
end Go.Proofs.YtoaajpppbjaomaaGreatDoor
/- The reference's runner: its memory, anew. -/
namespace Go.Proofs.YtoaajpppbjaomaaGreatDoor
open Go.RowKit
def memQ (mem : Mem) : Array Value := (mem.flatMap fun o => [.bool o.isSome, .int .i64 (o.getD 0)]).toArray
theorem memQ_size (mem : Mem) : (memQ mem).size = 2 * mem.length := by
  induction mem with
  | nil => rfl
  | cons a r ih =>
    have : (memQ (a :: r)).size = (memQ r).size + 2 := by simp [memQ]
    rw [this, ih]; simp; omega
theorem memP_get (mem : Mem) : ∀ (i : Nat) (o : Option Int), mem[i]? = some o →
    (mem.flatMap fun o => [Value.bool o.isSome, Value.int .i64 (o.getD 0)])[i * 2]? = some (.bool o.isSome) ∧
    (mem.flatMap fun o => [Value.bool o.isSome, Value.int .i64 (o.getD 0)])[i * 2 + 1]? = some (.int .i64 (o.getD 0)) := by
  induction mem with
  | nil => intro i o h; simp at h
  | cons a r ih =>
    intro i o h
    cases i with
    | zero => simp at h; subst h; simp
    | succ i =>
      have h' := ih i o (by simpa using h)
      have e : (i + 1) * 2 = i * 2 + 1 + 1 := by omega
      rw [e]
      simpa using h'
theorem memQ_get {mem : Mem} {i : Nat} {o : Option Int} (h : mem[i]? = some o) : (memQ mem)[i * 2]? = some (.bool o.isSome) ∧ (memQ mem)[i * 2 + 1]? = some (.int .i64 (o.getD 0)) := by
  have := memP_get mem i o h
  simpa [memQ] using this
theorem memP_set (mem : Mem) : ∀ (i : Nat) (o : Option Int), i < mem.length →
    (((mem.flatMap fun o => [Value.bool o.isSome, Value.int .i64 (o.getD 0)]).set (i * 2) (.bool o.isSome)).set (i * 2 + 1) (.int .i64 (o.getD 0))) =
      ((mem.set i o).flatMap fun o => [Value.bool o.isSome, Value.int .i64 (o.getD 0)]) := by
  induction mem with
  | nil => intro i o h; simp at h
  | cons a r ih =>
    intro i o h
    cases i with
    | zero => simp
    | succ i =>
      have h' := ih i o (by simpa using h)
      have e : (i + 1) * 2 = i * 2 + 1 + 1 := by omega
      rw [e]
      simp
      simpa using h'
theorem memQ_set {mem : Mem} {i : Nat} (o : Option Int) (h : i < mem.length) :
    ((memQ mem).setIfInBounds (i * 2) (.bool o.isSome)).setIfInBounds (i * 2 + 1) (.int .i64 (o.getD 0)) = memQ (mem.set i o) := by
  apply Array.toList_inj.1
  simp only [Array.toList_setIfInBounds, memQ]
  exact memP_set mem i o h

/-- the reference's runner, where it lies -/
structure RMem (W w : World) (R M : Nat) (fv : Value) (mem : Mem) (tr : Bool) (cnt : Int) : Prop where
  below : Below W.heap.size W w
  hR : w.heap[R]? = some (.cells #[fv, .slice (some ⟨M, 0, none⟩) mem.length mem.length, .bool tr, .int .i64 cnt] 42 (0, 0))
  hM : w.heap[M]? = some (.cells (memQ mem) 75 (0, 0))
  geR : W.heap.size ≤ R
  geM : W.heap.size ≤ M
  RM : R ≠ M
  mlen : mem.length ≤ 1000
theorem RMem.on {W w w' : World} {R M : Nat} {fv : Value} {mem mem' : Mem} {tr : Bool} {cnt : Int} (h : RMem W w R M fv mem tr cnt) (hk : Keep [M] w w')
    (hM : w'.heap[M]? = some (.cells (memQ mem') 75 (0, 0))) (hl : mem'.length = mem.length) : RMem W w' R M fv mem' tr cnt where
  below := hk.below h.below h.below.size (fun x hx => by have : x = M := by simpa using hx
                                                         rw [this]; exact h.geM)
  hR := by
    rw [hk.block R (lt_of_block h.hR) (by simp [h.RM]), hl]; exact h.hR
  hM := hM
  geR := h.geR
  geM := h.geM
  RM := h.RM
  mlen := by rw [hl]; exact h.mlen
theorem RMem.later {W w w' : World} {R M : Nat} {fv : Value} {mem : Mem} {tr : Bool} {cnt : Int} (h : RMem W w R M fv mem tr cnt) (hb : Below w.heap.size w w') : RMem W w' R M fv mem tr cnt :=
  { h with
    below := h.below.trans (hb.mono h.below.size)
    hR := (hb.block R (lt_of_block h.hR)).trans h.hR
    hM := (hb.block M (lt_of_block h.hM)).trans h.hM }
theorem cellsQ_get {mem : Mem} {w : World} {M : Nat} (hM : w.heap[M]? = some (.cells (memQ mem) 75 (0, 0))) {i : Nat} (h : i < mem.length) :
    (∃ u, w.cell? ⟨M, i * 2, none⟩ = some u) ∧ (∃ u, w.cell? ⟨M, i * 2 + 1, none⟩ = some u) ∧ w.frozen? ⟨M, i * 2, none⟩ = false ∧ w.frozen? ⟨M, i * 2 + 1, none⟩ = false := by
  obtain ⟨h1, h2⟩ := memQ_get (mem := mem) (i := i) (List.getElem?_eq_getElem h)
  exact ⟨⟨_, cellB' hM _ h1⟩, ⟨_, cellB' hM _ h2⟩, frozB hM _, frozB hM _⟩
/-- a cell of the memory is written -/
theorem RMem.put {W w : World} {R M : Nat} {fv : Value} {mem : Mem} {tr : Bool} {cnt : Int} (h : RMem W w R M fv mem tr cnt) (i : Nat) (o : Option Int) (hi : i < mem.length) :
    RMem W ((w.setCell ⟨M, i * 2, none⟩ (.bool o.isSome)).setCell ⟨M, i * 2 + 1, none⟩ (.int .i64 (o.getD 0))) R M fv (mem.set i o) tr cnt ∧
      Keep [M] w ((w.setCell ⟨M, i * 2, none⟩ (.bool o.isSome)).setCell ⟨M, i * 2 + 1, none⟩ (.int .i64 (o.getD 0))) := by
  have hk : Keep [M] w ((w.setCell ⟨M, i * 2, none⟩ (.bool o.isSome)).setCell ⟨M, i * 2 + 1, none⟩ (.int .i64 (o.getD 0))) :=
    (((Keep.refl _ _).setCell (.inl (by simp)) _).setCell (.inl (by simp)) _)
  refine ⟨h.on hk ?_ (by simp), hk⟩
  have h1 := heap_setCell_eq h.hM (i * 2) (.bool o.isSome)
  have h2 := heap_setCell_eq h1 (i * 2 + 1) (.int .i64 (o.getD 0))
  rw [h2, memQ_set o hi]
/-- cleared, cell by cell -/
def clrF (base : Nat) : Nat → Mem → Mem
  | 0, m => m
  | n + 1, m => (clrF base n m).set (base + n) none
theorem clrF_len (base : Nat) : ∀ (n : Nat) (m : Mem), (clrF base n m).length = m.length
  | 0, _ => rfl
  | n + 1, m => by simp only [clrF, List.length_set, clrF_len base n m]
theorem clrF_get (base : Nat) : ∀ (n : Nat) (m : Mem), base + n ≤ m.length → ∀ j, (clrF base n m)[j]? = if base ≤ j ∧ j < base + n then some none else m[j]?
  | 0, m, _, j => by rw [if_neg (by omega)]; rfl
  | n + 1, m, h, j => by
    simp only [clrF]
    rw [List.getElem?_set, clrF_len]
    by_cases hj : base + n = j
    · subst hj
      rw [if_pos rfl, if_pos (by omega), if_pos (by omega)]
    · rw [if_neg hj, clrF_get base n m (by omega) j]
      by_cases h1 : base ≤ j ∧ j < base + n
      · rw [if_pos h1, if_pos (by omega)]
      · rw [if_neg h1, if_neg (by omega)]
theorem clrF_clear (base n : Nat) (m : Mem) (h : base + n ≤ m.length) : clrF base n m = clearM m base n := by
  apply List.ext_getElem?
  intro j
  rw [clrF_get base n m h j]
  unfold clearM
  by_cases h1 : j < base
  · rw [if_neg (by omega), List.append_assoc, List.getElem?_append_left (by simp; omega), List.getElem?_take, if_pos h1]
  · rw [List.append_assoc, List.getElem?_append_right (by simp; omega)]
    have e : (m.take base).length = base := by simp; omega
    rw [e]
    by_cases h2 : j < base + n
    · rw [if_pos (by omega), List.getElem?_append_left (by simp; omega), List.getElem?_replicate, if_pos (by omega)]
    · rw [if_neg (by omega), List.getElem?_append_right (by simp; omega)]
      simp only [List.length_replicate, List.getElem?_drop]
      congr 1; omega
structure AnewQ (W : World) (R M : Nat) (fv : Value) (mem' : Mem) (tr : Bool) (cnt : Int) (w : World) (e : Ending) (w' : World) : Prop where
  ret : e = .returned (.bool true)
  st : RMem W w' R M fv mem' tr cnt
  keep : Keep [M] w w'
def ClrRel (W : World) (R M : Nat) (fv : Value) (cl base : Nat) (mem : Mem) (tr : Bool) (cnt : Int) (w1 : World) (i : Value) (wr : World) : Prop :=
  ∃ j : Nat, j ≤ cl ∧ i = .int .i64 j ∧ RMem W wr R M fv (clrF base j mem) tr cnt ∧ Keep [M] w1 wr
def FlagQ (W : World) (R M : Nat) (fv : Value) (f : FN) (base : Nat) (mem1 : Mem) (tr : Bool) (cnt : Int) (w1 : World) (i : Value) (wr : World) : Prop :=
  ∃ j : Nat, j ≤ f.flags.length ∧ i = .int .i64 j ∧ RMem W wr R M fv ((f.flags.take j).foldl (setF base) mem1) tr cnt ∧ Keep [M] w1 wr
def PartQ (W : World) (R M : Nat) (fv : Value) (funs : List FN) (n : Nat) (f : FN) (base : Nat) (mem2 : Mem) (tr : Bool) (cnt : Int) (w2 : World) (i : Value) (wr : World) : Prop :=
  ∃ j : Nat, j ≤ f.parts.length ∧ i = .int .i64 j ∧ RMem W wr R M fv ((f.parts.take j).foldl (fun m p => anewF funs n p.fn.toNat (base + p.at_.toNat) m) mem2) tr cnt ∧ Keep [M] w2 wr
set_option maxRecDepth 100000 in
set_option maxHeartbeats 2000000 in
theorem anewq_step {W : World} {funs : List FN} {fv : Value} {nf : Nat} (hrep : RepV (RepF W nf) 6 W fv funs) (hr : RightP funs) {R M : Nat} {tr : Bool} {cnt : Int} (n : Nat)
    (IH : ∀ (k : Nat) (base : Nat) (mem : Mem) (w : World), k < n → k < funs.length → base + (funs.getD k default).cells.toNat ≤ mem.length → RMem W w R M fv mem tr cnt →
      Calls Tryz.prog 25 #[.pointer (some ⟨R, 0, none⟩), .int .i64 k, .int .i64 base] w (AnewQ W R M fv (anewF funs n k base mem) tr cnt w))
    (k : Nat) (base : Nat) (mem : Mem) (w : World) (hk : k < n + 1) (hkl : k < funs.length) (hl : base + (funs.getD k default).cells.toNat ≤ mem.length) (hS : RMem W w R M fv mem tr cnt) :
    Calls Tryz.prog 25 #[.pointer (some ⟨R, 0, none⟩), .int .i64 k, .int .i64 base] w (AnewQ W R M fv (anewF funs (n + 1) k base mem) tr cnt w) := by
  generalize hf : funs.getD k default = f at *
  obtain ⟨b, o, c, Ap, cp, Ar, cr, Af, cf, Aq, cq, Ab, cb, rfl, hfl, hbW, c0, c1, c2, c3, c4, c5, _, _, r3, r4, _⟩ := fn_cells hrep hS.below hkl hf
  have r0 : w.cell? ⟨R, 0, none⟩ = some (.slice (some ⟨b, o, none⟩) funs.length c) := cellB' hS.hR 0 rfl
  have r1 : w.cell? ⟨R, 1, none⟩ = some (.slice (some ⟨M, 0, none⟩) mem.length mem.length) := cellB' hS.hR 1 rfl
  have hcl := hr.cells k hkl
  rw [hf] at hcl
  have hml := hS.mlen
  obtain ⟨cl, hcle⟩ := Int.eq_ofNat_of_zero_le hcl.1
  rw [hcle] at c2
  have hcl2 : cl ≤ 1000 := by omega
  have hl' : base + cl ≤ mem.length := by rw [hcle] at hl; simpa using hl
  have hRlt := lt_of_block hS.hR
  have HF := Lib.hid hf
  have HC := Lib.hid hcle
  have HS := Lib.hid hS
  have HI := Lib.hid IH
  have hbw : b < w.heap.size := Nat.lt_of_lt_of_le hbW hS.below.size
  have d1 : decide ((base : Int) < 0) = false := decide_eq_false (by omega)
  have d2 : decide (mem.length < base) = false := decide_eq_false (by omega)
  have d3 : decide ((mem.length : Int) - (base : Int) < (cl : Int)) = false := decide_eq_false (by omega)
  clear hf hcle hS IH hl hcl
  go_enter Tryz.func25, Tryz.ntmps25
  go_wp2_with fail
  obtain ⟨w0, hw0⟩ : ∃ w0, w0 = w.alloc (.cells #[Value.slice Ap f.params.length cp, Value.slice Ar f.results.length cr, Value.int IntKind.i64 ↑cl, Value.slice Af f.flags.length cf, Value.slice Aq f.parts.length cq, Value.slice Ab f.body.length cb] 50) := ⟨_, rfl⟩
  rw [← hw0]
  have hb0 : Below w.heap.size w w0 := by rw [hw0]; exact (Below.refl _ _).alloc (Nat.le_refl _) _
  have hN0 : w0.heap[w.heap.size]? = some (.cells #[Value.slice Ap f.params.length cp, Value.slice Ar f.results.length cr, Value.int IntKind.i64 ↑cl, Value.slice Af f.flags.length cf, Value.slice Aq f.parts.length cq, Value.slice Ab f.body.length cb] 50 (0, 0)) := by rw [hw0]; exact heap_alloc_at _ _
  have hk0 : Keep [M] w w0 := by rw [hw0]; exact (Keep.refl _ _).alloc _
  have HS0 := Lib.hid (HS.out.later hb0)
  have HN := Lib.hid hN0
  have HK0 := Lib.hid hk0
  have hR0 := lt_of_block HS0.out.hR
  have hM0 := lt_of_block HS0.out.hM
  have hN0l := lt_of_block hN0
  replace r1 := (hb0.cell (p := ⟨R, 1, none⟩) hRlt).trans r1
  have f2 := cellB' hN0 2 rfl
  have hsz0 := hb0.size
  clear hw0 hb0 hN0 hk0 r0 c0 c1 c2 c3 c4 c5 hbw hRlt
  generalize hNB : w.heap.size = N at HN f2 hN0l ⊢
  go_quiet (fail)
  have HQ := Lib.hid (Below.drewN' (Below.refl w0.heap.size w0) nq)
  have HS1 := Lib.hid (HS0.out.later HQ.out)
  have HK1 := Lib.hid (HK0.out.trans (Keep.of_below HQ.out))
  have HN1 := Lib.hid ((HQ.out.block N hN0l).trans HN.out)
  have hNM : N ≠ M := by have := lt_of_block HS.out.hM; omega
  clear d1 d2 d3 r1 f2 hN0l hR0 hM0 HQ HS0 HN HK0
  generalize w0.drewN nq = w1 at HS1 HK1 HN1 ⊢
  have hN1l := lt_of_block HN1.out
  go_wp2_with fail
  go_loopw [8] (fun i wr => ClrRel W R M (Value.slice (some ⟨b, o, none⟩) funs.length c) cl base mem tr cnt w1 i wr) (fun i _ => cl - (intOf i).toNat)
  case atStart => exact ⟨0, Nat.zero_le _, rfl, HS1.out, Keep.refl _ _⟩
  case round =>
    obtain ⟨j, hj, rfl, hSj, hkj⟩ := hrel
    have hNr : wr.heap[N]? = _ := (hkj.block N hN1l (by simp [hNM])).trans HN1.out
    have f2 := cellB' hNr 2 rfl
    have hNl := lt_of_block hNr
    by_cases hlt : j < cl
    · have hRM := hSj.hR
      rw [clrF_len] at hRM
      have rr1 : wr.cell? ⟨R, 1, none⟩ = some (.slice (some ⟨M, 0, none⟩) mem.length mem.length) := cellB' hRM 1 rfl
      have hbx : base + j < mem.length := by omega
      obtain ⟨⟨u1, g1⟩, ⟨u2, g2⟩, g3, g4⟩ := cellsQ_get hSj.hM (i := base + j) (by rw [clrF_len]; exact hbx)
      have e1 : (base : Int) + j < mem.length := by omega
      have HP := Lib.hid (hSj.put (base + j) none (by rw [clrF_len]; exact hbx))
      have HKJ := Lib.hid hkj
      have hRl := lt_of_block hSj.hR
      have hMl := lt_of_block hSj.hM
      clear hSj hRM hNr hkj
      go_wp2_with fail
      exact ⟨⟨j + 1, by omega, by go_num, HP.out.1, HKJ.out.trans HP.out.2⟩, by simp [intOf]; omega⟩
    · obtain rfl : j = cl := by omega
      rw [clrF_clear base j mem hl'] at hSj
      have HSA := Lib.hid hSj
      have HKA := Lib.hid (HK1.out.trans hkj)
      have HNA := Lib.hid hNr
      have f3 := cellB' hNr 3 rfl
      have hfl2 := r3.1
      have hln := clearM_length mem base j hl'
      clear hSj hkj hNr
      generalize hm1 : clearM mem base j = mem1 at HSA hln
      obtain ⟨wo, rfl⟩ : ∃ wo : World, wo = wr := ⟨_, rfl⟩
      go_wp2_with fail
      go_loopw [9] (fun i wr => FlagQ W R M (Value.slice (some ⟨b, o, none⟩) funs.length c) f base mem1 tr cnt wo i wr) (fun i _ => f.flags.length - (intOf i).toNat)
      case atStart => exact ⟨0, Nat.zero_le _, rfl, HSA.out, Keep.refl _ _⟩
      case round =>
        obtain ⟨i, hi, rfl, hSi, hki⟩ := hrel
        have hNx : wr.heap[N]? = _ := (hki.block N hNl (by simp [hNM])).trans HNA.out
        have f3' := cellB' hNx 3 rfl
        have hNxl := lt_of_block hNx
        by_cases hlt2 : i < f.flags.length
        · obtain ⟨_, _, he, _, _, _, hget⟩ := r3.get hSi.below
          obtain ⟨bF, oF, cs, hAf, hbF, _, hRI, hAt⟩ := hget i _ (List.getElem?_eq_getElem hlt2)
          obtain ⟨rfl, _⟩ := hRI
          have hin := hr.flags k hkl
          rw [HF.out] at hin
          have hx := hin f.flags[i] (List.getElem_mem hlt2)
          obtain ⟨x, hxe⟩ := Int.eq_ofNat_of_zero_le hx.1
          have hcf : wr.cell? ⟨bF, oF + i, none⟩ = some (.int .i64 x) := by
            have := hAt 0 _ rfl
            simpa [hxe] using this
          injection he with he1 he2 he3
          subst he1
          have hAf' := hAf
          subst hAf'
          have hxl : x < j := by have := HC.out; omega
          have hbx : base + x < mem1.length := by omega
          have hRM := hSi.hR
          rw [foldF_length, hln] at hRM
          have rr1 : wr.cell? ⟨R, 1, none⟩ = some (.slice (some ⟨M, 0, none⟩) mem.length mem.length) := cellB' hRM 1 rfl
          obtain ⟨⟨u1, g1⟩, ⟨u2, g2⟩, g3, g4⟩ := cellsQ_get hSi.hM (i := base + x) (by rw [foldF_length]; exact hbx)
          have e1 : (base : Int) + x < mem.length := by omega
          have hbx2 : base + x < mem.length := by omega
          have HSI := Lib.hid hSi
          have HT := Lib.hid (take_snoc' (List.getElem?_eq_getElem hlt2))
          have HX := Lib.hid hxe
          have HKI := Lib.hid hki
          have hRl := lt_of_block hSi.hR
          have hMl := lt_of_block hSi.hM
          have hbFl : bF < wr.heap.size := Nat.lt_of_lt_of_le hbF hSi.below.size
          clear hSi hRM hAt hget hin hx hxe hki hAf he2 he3 hNx f2 f3
          go_wp2_with fail
          refine region_qtail 13 (by kernel_rfl) (by kernel_rfl) ?_
          simp only [List.take_succ_cons, List.take_zero, List.drop_succ_cons, List.drop_zero]
          repeat (go_big_quiet_step (fail))
          refine wpQuiet_nil ?_
          intro kq
          have hb5 := Below.drewN' (Below.refl wr.heap.size wr) kq
          have HK5 := Lib.hid (HKI.out.trans (Keep.of_below hb5))
          have HS5 := Lib.hid (HSI.out.later hb5)
          clear hb5 g1 g2 g3 g4 rr1 f3' hNxl hcf hRl hMl HSI HKI hbFl
          generalize wr.drewN kq = w5 at HK5 HS5 ⊢
          obtain ⟨⟨u1, g1⟩, ⟨u2, g2⟩, g3, g4⟩ := cellsQ_get HS5.out.hM (i := base + x) (by rw [foldF_length]; exact hbx)
          have hMl := lt_of_block HS5.out.hM
          have HP := Lib.hid (HS5.out.put (base + x) (some 1) (by rw [foldF_length]; exact hbx))
          go_wp2_with fail
          refine ⟨⟨i + 1, by omega, by go_num, ?_, HK5.out.trans HP.out.2⟩, by simp [intOf]; omega⟩
          have h := HP.out.1
          rw [HT.out, List.foldl_append, List.foldl_cons, List.foldl_nil]
          unfold setF at h ⊢
          rw [HX.out]
          exact h
        · obtain rfl : i = f.flags.length := by omega
          rw [List.take_length] at hSi
          have HSJ := Lib.hid hSi
          have HKJ := Lib.hid hki
          have HNB := Lib.hid hNx
          have f4 := cellB' hNx 4 rfl
          have hql := r4.1
          have hl2 := foldF_length base f.flags mem1
          rw [hln] at hl2
          have HL2 := Lib.hid hl2
          clear hSi hki hNx hl2 f2 f3
          obtain ⟨wp, rfl⟩ : ∃ wp : World, wp = wr := ⟨_, rfl⟩
          go_wp2_with fail
          go_loopw [10] (fun i wr => PartQ W R M (Value.slice (some ⟨b, o, none⟩) funs.length c) funs n f base (f.flags.foldl (setF base) mem1) tr cnt wp i wr) (fun i _ => f.parts.length - (intOf i).toNat)
          case atStart => exact ⟨0, Nat.zero_le _, rfl, HSJ.out, Keep.refl _ _⟩
          case round =>
            obtain ⟨i, hi, rfl, hSi, hki⟩ := hrel
            have hNy : wr.heap[N]? = _ := (hki.block N hNxl (by simp [hNM])).trans HNB.out
            have f4' := cellB' hNy 4 rfl
            have hNyl := lt_of_block hNy
            by_cases hlt3 : i < f.parts.length
            · obtain ⟨_, _, he, _, _, _, hget⟩ := r4.get hSi.below
              obtain ⟨bQ, oQ, cs, hAq, hbQ, _, hRI, hAt⟩ := hget i _ (List.getElem?_eq_getElem hlt3)
              obtain ⟨rfl, _⟩ := hRI
              have hin := hr.parts k hkl
              rw [HF.out] at hin
              have hx := hin f.parts[i] (List.getElem_mem hlt3)
              obtain ⟨pa, hpa⟩ := Int.eq_ofNat_of_zero_le hx.2.2.1
              obtain ⟨pf, hpf⟩ := Int.eq_ofNat_of_zero_le hx.1
              have hc0 : wr.cell? ⟨bQ, oQ + i * 2, none⟩ = some (.int .i64 pa) := by
                have := hAt 0 _ rfl
                simpa [hpa] using this
              have hc1 : wr.cell? ⟨bQ, oQ + i * 2 + 1, none⟩ = some (.int .i64 pf) := by
                have := hAt 1 _ rfl
                simpa [hpf] using this
              injection he with he1 he2 he3
              subst he1
              have hAq' := hAq
              subst hAq'
              have hbq2 : bQ < wr.heap.size := Nat.lt_of_lt_of_le hbQ hSi.below.size
              have hpfk : pf < k := by have := hx.2.1; omega
              have hfit : base + pa + (funs.getD pf default).cells.toNat ≤ ((f.parts.take i).foldl (fun m p => anewF funs n p.fn.toNat (base + p.at_.toNat) m) (f.flags.foldl (setF base) mem1)).length := by
                have hpin := parts_in hr hkl HF.out HC.out hl'
                rw [partsF_length funs hr n base mem.length _ (fun p hp => hpin p (List.mem_of_mem_take hp)) _ HL2.out]
                have := (hpin f.parts[i] (List.getElem_mem hlt3)).2
                rw [hpa, hpf] at this
                simpa using this
              have HFIT := Lib.hid hfit
              have HT := Lib.hid (take_snoc' (List.getElem?_eq_getElem hlt3))
              have HPA := Lib.hid hpa
              have HPF := Lib.hid hpf
              have HKJ2 := Lib.hid hki
              have HSJ2 := Lib.hid hSi
              have hb64 : (base : Int) + pa ≤ 9223372036854775807 := by have := HC.out; have := hx.2.2.2.1; omega
              clear hSi hAt hget hin hx hpa hpf hki hAq he2 he3 hfit hNy f4 f3'
              go_wp2_with fail
              refine region_qtail 15 (by kernel_rfl) (by kernel_rfl) ?_
              simp only [List.take_succ_cons, List.take_zero, List.drop_succ_cons, List.drop_zero]
              repeat (go_big_quiet_step (fail))
              refine wpQuiet_nil ?_
              intro kq
              have hb5 := Below.drewN' (Below.refl wr.heap.size wr) kq
              have HK5 := Lib.hid (HKJ2.out.trans (Keep.of_below hb5))
              have HS5 := Lib.hid (HSJ2.out.later hb5)
              clear hb5 hc0 hc1 f4' hNyl hbq2 HSJ2 HKJ2
              generalize wr.drewN kq = w5 at HK5 HS5 ⊢
              go_wp2_with fail
              rw [show (base : Int) + pa = ((base + pa : Nat) : Int) from by omega]
              refine (HI.out pf (base + pa) _ _ (by omega) (by omega) HFIT.out HS5.out).mono ?_
              rintro e w3 ⟨rfl, hs3, hk3⟩
              have HS3 := Lib.hid hs3
              have HK3 := Lib.hid hk3
              clear hs3 hk3
              go_wp2_with fail
              refine ⟨⟨i + 1, by omega, by go_num, ?_, HK5.out.trans HK3.out⟩, by simp [intOf]; omega⟩
              rw [HT.out, List.foldl_append, List.foldl_cons, List.foldl_nil, HPF.out, HPA.out]
              exact HS3.out
            · obtain rfl : i = f.parts.length := by omega
              rw [List.take_length] at hSi
              have HSI := Lib.hid hSi
              have HKI := Lib.hid hki
              clear hSi hki hNy f4
              go_wp2_with fail
              go_ret
              refine ⟨rfl, ?_, HKA.out.trans (HKJ.out.trans HKI.out)⟩
              have h := HSI.out
              simp only [anewF, HF.out, HC.out]
              rw [← hm1] at h
              exact h
theorem anewq_any {W : World} {funs : List FN} {fv : Value} {nf : Nat} (hrep : RepV (RepF W nf) 6 W fv funs) (hr : RightP funs) {R M : Nat} {tr : Bool} {cnt : Int} :
    ∀ (n k base : Nat) (mem : Mem) (w : World), k < n → k < funs.length → base + (funs.getD k default).cells.toNat ≤ mem.length → RMem W w R M fv mem tr cnt →
      Calls Tryz.prog 25 #[.pointer (some ⟨R, 0, none⟩), .int .i64 k, .int .i64 base] w (AnewQ W R M fv (anewF funs n k base mem) tr cnt w) := by
  intro n
  induction n with
  | zero => intro k base mem w h; omega
  | succ n ih => intro k base mem w hk hkl hl hS; exact anewq_step hrep hr n ih k base mem w hk hkl hl hS
/-- a cell isn't in the memory -/
structure AnewNo (W : World) (R M : Nat) (fv : Value) (mem : Mem) (tr : Bool) (cnt : Int) (w : World) (e : Ending) (w' : World) : Prop where
  ret : e = .returned (.bool false)
  below : Below w.heap.size w w'
set_option maxRecDepth 100000 in
set_option maxHeartbeats 2000000 in
theorem anewq_no {W : World} {funs : List FN} {fv : Value} {nf : Nat} (hrep : RepV (RepF W nf) 6 W fv funs) (hr : RightP funs) {R M : Nat} {mem : Mem} {tr : Bool} {cnt : Int} (k : Nat) (base : Int) (w : World) (hkl : k < funs.length)
    (hno : base < 0 ∨ (mem.length : Int) < base ∨ (mem.length : Int) - base < (funs.getD k default).cells) (hI : I64 base) (hS : RMem W w R M fv mem tr cnt) :
    Calls Tryz.prog 25 #[.pointer (some ⟨R, 0, none⟩), .int .i64 k, .int .i64 base] w (AnewNo W R M fv mem tr cnt w) := by
  generalize hf : funs.getD k default = f at *
  obtain ⟨b, o, c, Ap, cp, Ar, cr, Af, cf, Aq, cq, Ab, cb, rfl, hfl, hbW, c0, c1, c2, c3, c4, c5, _, _, r3, r4, _⟩ := fn_cells hrep hS.below hkl hf
  have r0 : w.cell? ⟨R, 0, none⟩ = some (.slice (some ⟨b, o, none⟩) funs.length c) := cellB' hS.hR 0 rfl
  have r1 : w.cell? ⟨R, 1, none⟩ = some (.slice (some ⟨M, 0, none⟩) mem.length mem.length) := cellB' hS.hR 1 rfl
  have hcl := hr.cells k hkl
  rw [hf] at hcl
  have hml := hS.mlen
  obtain ⟨cl, hcle⟩ := Int.eq_ofNat_of_zero_le hcl.1
  rw [hcle] at c2 hno
  have hRlt := lt_of_block hS.hR
  have HS := Lib.hid hS
  have hbw : b < w.heap.size := Nat.lt_of_lt_of_le hbW hS.below.size
  clear hf hcle hS hcl
  unfold I64 at hI
  go_enter Tryz.func25, Tryz.ntmps25
  go_wp2_with fail
  obtain ⟨w0, hw0⟩ : ∃ w0, w0 = w.alloc (.cells #[Value.slice Ap f.params.length cp, Value.slice Ar f.results.length cr, Value.int IntKind.i64 ↑cl, Value.slice Af f.flags.length cf, Value.slice Aq f.parts.length cq, Value.slice Ab f.body.length cb] 50) := ⟨_, rfl⟩
  rw [← hw0]
  have hb0 : Below w.heap.size w w0 := by rw [hw0]; exact (Below.refl _ _).alloc (Nat.le_refl _) _
  have hN0 : w0.heap[w.heap.size]? = some (.cells #[Value.slice Ap f.params.length cp, Value.slice Ar f.results.length cr, Value.int IntKind.i64 ↑cl, Value.slice Af f.flags.length cf, Value.slice Aq f.parts.length cq, Value.slice Ab f.body.length cb] 50 (0, 0)) := by rw [hw0]; exact heap_alloc_at _ _
  have HB0 := Lib.hid hb0
  have hN0l := lt_of_block hN0
  replace r1 := (hb0.cell (p := ⟨R, 1, none⟩) hRlt).trans r1
  have hRl0 : R < w0.heap.size := Nat.lt_of_lt_of_le hRlt hb0.size
  have f2 := cellB' hN0 2 rfl
  clear hw0 hb0 hN0 r0 c0 c1 c2 c3 c4 c5 hbw
  generalize hNB : w.heap.size = N at f2 hN0l ⊢
  by_cases g1 : base < 0
  · have d1 : decide (base < 0) = true := decide_eq_true g1
    go_quiet (fail)
    go_wp2_with fail
    go_ret
    exact ⟨rfl, hNB ▸ Below.drewN' HB0.out _⟩
  have d1 : decide (base < 0) = false := decide_eq_false g1
  by_cases g2 : (mem.length : Int) < base
  · have d2 : decide ((mem.length : Int) < base) = true := decide_eq_true g2
    go_quiet (fail)
    go_wp2_with fail
    go_ret
    exact ⟨rfl, hNB ▸ Below.drewN' HB0.out _⟩
  have d2 : decide ((mem.length : Int) < base) = false := decide_eq_false g2
  have d3 : decide ((mem.length : Int) - base < (cl : Int)) = true := decide_eq_true (by omega)
  go_quiet (fail)
  go_wp2_with fail
  go_ret
  exact ⟨rfl, hNB ▸ Below.drewN' HB0.out _⟩
end Go.Proofs.YtoaajpppbjaomaaGreatDoor
/- The reference's frame: its variables as a list; get, set, place, add. -/
namespace Go.Proofs.YtoaajpppbjaomaaGreatDoor
open Go.RowKit
/-! ### what is kept: everything but some blocks, and but the variables' lists that came later -/
def IsSlots (o : Obj) : Prop := ∃ c z, o = .cells c 127 z
structure KeepV (lo : Nat) (S : List Nat) (w w' : World) : Prop where
  os : w'.os = w.os
  tape : w'.tape = w.tape
  output : w'.output = w.output
  size : w.heap.size ≤ w'.heap.size
  block : ∀ k o, w.heap[k]? = some o → k ∉ S → (k < lo ∨ ¬ IsSlots o) → w'.heap[k]? = some o
theorem KeepV.refl (lo : Nat) (S : List Nat) (w : World) : KeepV lo S w w := ⟨rfl, rfl, rfl, Nat.le_refl _, fun _ _ h _ _ => h⟩
theorem KeepV.trans {lo : Nat} {S : List Nat} {a b c : World} (h : KeepV lo S a b) (k : KeepV lo S b c) : KeepV lo S a c :=
  ⟨k.os.trans h.os, k.tape.trans h.tape, k.output.trans h.output, Nat.le_trans h.size k.size, fun i o hi hs ho => k.block i o (h.block i o hi hs ho) hs ho⟩
theorem KeepV.mono {lo : Nat} {S S' : List Nat} {w w' : World} (h : KeepV lo S w w') (hs : ∀ x, x ∈ S → x ∈ S') : KeepV lo S' w w' :=
  ⟨h.os, h.tape, h.output, h.size, fun k o hk hn ho => h.block k o hk (fun hm => hn (hs k hm)) ho⟩
theorem KeepV.of_keep {lo : Nat} {S : List Nat} {w w' : World} (h : Keep S w w') : KeepV lo S w w' :=
  ⟨h.os, h.tape, h.output, h.size, fun k _o hk hn _ => (h.block k (Array.getElem?_eq_some_iff.1 hk).1 hn).trans hk⟩
theorem KeepV.of_below {lo : Nat} {S : List Nat} {w w' : World} (h : Below w.heap.size w w') : KeepV lo S w w' := .of_keep (Keep.of_below h)
theorem KeepV.cells {lo : Nat} {S : List Nat} {w w' : World} (h : KeepV lo S w w') {k : Nat} {c : Array Value} {t : TypeId} {z : Nat × Nat} (hk : w.heap[k]? = some (.cells c t z)) (hs : k ∉ S) (ht : t ≠ 127) : w'.heap[k]? = some (.cells c t z) :=
  h.block k _ hk hs (.inr (fun ⟨c', z', e⟩ => by
    simp only [Obj.cells.injEq] at e
    exact ht e.2.1))
/-- to a caller, in whose day the frame wasn't there -/
theorem KeepV.keep {lo : Nat} {S S' : List Nat} {w w' : World} (h : KeepV lo S w w') (hlo : lo = w.heap.size) (hS : ∀ x, x ∈ S → x ∈ S' ∨ w.heap.size ≤ x) : Keep S' w w' :=
  ⟨h.os, h.tape, h.output, h.size, fun k hk hn => by
    rw [Array.getElem?_eq_getElem hk]
    exact h.block k _ (Array.getElem?_eq_getElem hk) (fun hm => by
      rcases hS k hm with h1 | h1
      · exact hn h1
      · omega) (.inl (by omega))⟩
theorem KeepV.below {B lo : Nat} {S : List Nat} {a w w' : World} (hb : Below B a w) (h : KeepV lo S w w') (hB : B ≤ a.heap.size) (hlo : B ≤ lo) (hs : ∀ x, x ∈ S → B ≤ x) : Below B a w' :=
  hb.trans ⟨h.os, h.tape, h.output, h.size, fun k hk => by
    have hkw : k < w.heap.size := by have := hb.size; omega
    rw [Array.getElem?_eq_getElem hkw]
    exact h.block k _ (Array.getElem?_eq_getElem hkw) (fun hm => by have := hs k hm; omega) (.inl (by omega))⟩
/-! ### variables -/
def slotC (x : ByteArray × Option Int) : List Value := [.string x.1, .bool x.2.isSome, .int .i64 (x.2.getD 0)]
theorem slots_len (vs : Vars) : (vs.flatMap slotC).length = vs.length * 3 := by
  induction vs with
  | nil => rfl
  | cons a r ih => simp only [List.flatMap_cons, List.length_append, ih, List.length_cons, slotC, List.length_nil]; omega
theorem slots_get (vs : Vars) : ∀ (i : Nat) (x : ByteArray × Option Int), vs[i]? = some x →
    (vs.flatMap slotC)[i * 3]? = some (.string x.1) ∧ (vs.flatMap slotC)[i * 3 + 1]? = some (.bool x.2.isSome) ∧ (vs.flatMap slotC)[i * 3 + 2]? = some (.int .i64 (x.2.getD 0)) := by
  induction vs with
  | nil => intro i o h; simp at h
  | cons a r ih =>
    intro i o h
    cases i with
    | zero => simp at h; subst h; simp [slotC]
    | succ i =>
      have h' := ih i o (by simpa using h)
      have e : (i + 1) * 3 = i * 3 + 1 + 1 + 1 := by omega
      rw [e]
      simpa [slotC] using h'
theorem slots_set (vs : Vars) : ∀ (i : Nat) (s : ByteArray) (x o : Option Int), vs[i]? = some (s, x) →
    ((vs.flatMap slotC).set (i * 3 + 1) (.bool o.isSome)).set (i * 3 + 2) (.int .i64 (o.getD 0)) = (vs.set i (s, o)).flatMap slotC := by
  induction vs with
  | nil => intro i s x o h; simp at h
  | cons a r ih =>
    intro i s x o h
    cases i with
    | zero => simp at h; subst h; simp [slotC]
    | succ i =>
      have h' := ih i s x o (by simpa using h)
      have e : (i + 1) * 3 = i * 3 + 1 + 1 + 1 := by omega
      rw [e]
      simp only [List.flatMap_cons, List.set_cons_succ, slotC, List.cons_append, List.nil_append]
      simpa using h'
/-- the first of a name -/
theorem getv_at (vs : Vars) (s : ByteArray) : ∀ (i : Nat) (o : Option Int), vs[i]? = some (s, o) → (∀ (j : Nat) (x : ByteArray × Option Int), j < i → vs[j]? = some x → x.1 ≠ s) → getv vs s = o := by
  induction vs with
  | nil => intro i o h; simp at h
  | cons a r ih =>
    intro i o h hn
    obtain ⟨t, x⟩ := a
    cases i with
    | zero => simp at h; obtain ⟨rfl, rfl⟩ := h; simp [getv]
    | succ i =>
      have h0 := hn 0 (t, x) (by omega) rfl
      simp only at h0
      simp only [getv, if_neg h0]
      exact ih i o (by simpa using h) (fun j y hj hy => hn (j + 1) y (by omega) (by simpa using hy))
theorem getv_none (vs : Vars) (s : ByteArray) (hn : ∀ (j : Nat) (x : ByteArray × Option Int), vs[j]? = some x → x.1 ≠ s) : getv vs s = none := by
  induction vs with
  | nil => rfl
  | cons a r ih =>
    obtain ⟨t, x⟩ := a
    have h0 := hn 0 (t, x) rfl
    simp only at h0
    simp only [getv, if_neg h0]
    exact ih (fun j y hy => hn (j + 1) y (by simpa using hy))
theorem setv_at (vs : Vars) (s : ByteArray) (o : Option Int) : ∀ (i : Nat) (x : Option Int), vs[i]? = some (s, x) → (∀ (j : Nat) (x : ByteArray × Option Int), j < i → vs[j]? = some x → x.1 ≠ s) → setv vs s o = vs.set i (s, o) := by
  induction vs with
  | nil => intro i x h; simp at h
  | cons a r ih =>
    intro i x h hn
    obtain ⟨t, y⟩ := a
    cases i with
    | zero => simp at h; obtain ⟨rfl, rfl⟩ := h; simp [setv]
    | succ i =>
      have h0 := hn 0 (t, y) (by omega) rfl
      simp only at h0
      simp only [setv, if_neg h0, List.set_cons_succ]
      rw [ih i x (by simpa using h) (fun j z hj hz => hn (j + 1) z (by omega) (by simpa using hz))]
theorem setv_none (vs : Vars) (s : ByteArray) (o : Option Int) (hn : ∀ (j : Nat) (x : ByteArray × Option Int), vs[j]? = some x → x.1 ≠ s) : setv vs s o = vs ++ [(s, o)] := by
  induction vs with
  | nil => rfl
  | cons a r ih =>
    obtain ⟨t, x⟩ := a
    have h0 := hn 0 (t, x) rfl
    simp only at h0
    simp only [setv, if_neg h0, List.cons_append]
    rw [ih (fun j y hy => hn (j + 1) y (by simpa using hy))]
theorem setv_len (vs : Vars) (s : ByteArray) (o : Option Int) : (setv vs s o).length ≤ vs.length + 1 := by
  induction vs with
  | nil => simp [setv]
  | cons a r ih =>
    obtain ⟨t, x⟩ := a
    simp only [setv]
    split <;> simp <;> omega
theorem setvs_len : ∀ (l : List ByteArray) (vals : List Int) (vs : Vars), (setvs vs l vals).length ≤ vs.length + l.length
  | [], _, _ => by simp [setvs]
  | s :: l, [], vs => by simp [setvs]
  | s :: l, v :: r, vs => by
    simp only [setvs]
    have h1 := setvs_len l r (setv vs s (some v))
    have h2 := setv_len vs s (some v)
    simp only [List.length_cons]
    omega
/-- the frame, where it lies -/
structure FrQ (W w : World) (lo F R M : Nat) (fv : Value) (base : Nat) (mem : Mem) (cnt : Int) (vs : Vars) (bad : Bool) (vv : Value) : Prop where
  rm : RMem W w R M fv mem false cnt
  hF : w.heap[F]? = some (.cells #[.pointer (some ⟨R, 0, none⟩), .int .i64 base, vv, .bool bad] 103 (0, 0))
  own : w.ownsRow lo 127 3 vv vs.length (vs.flatMap slotC)
  geF : lo ≤ F
  geL : W.heap.size ≤ lo
  ltR : R < lo
  ltM : M < lo
  blen : base ≤ mem.length
  memI : ∀ v, some v ∈ mem → I64 v
  vsI : ∀ s v, (s, some v) ∈ vs → I64 v
section
variable {W w : World} {lo F R M : Nat} {fv : Value} {base : Nat} {mem : Mem} {cnt : Int} {vs : Vars} {bad : Bool} {vv : Value} (h : FrQ W w lo F R M fv base mem cnt vs bad vv)
include h
theorem FrQ.on {w' : World} (hb : Below w.heap.size w w') : FrQ W w' lo F R M fv base mem cnt vs bad vv :=
  { h with
    rm := h.rm.later hb
    hF := (hb.block F (lt_of_block h.hF)).trans h.hF
    own := own_keep h.own (Keep.of_below (S := []) hb) (fun x hx => by cases hx) }
theorem FrQ.FR : F ≠ R := by have := h.geF; have := h.ltR; omega
theorem FrQ.FM : F ≠ M := by have := h.geF; have := h.ltM; omega
theorem FrQ.c0 : w.cell? ⟨F, 0, none⟩ = some (.pointer (some ⟨R, 0, none⟩)) := cellB' h.hF 0 rfl
theorem FrQ.c1 : w.cell? ⟨F, 1, none⟩ = some (.int .i64 base) := cellB' h.hF 1 rfl
theorem FrQ.c2 : w.cell? ⟨F, 2, none⟩ = some vv := cellB' h.hF 2 rfl
theorem FrQ.c3 : w.cell? ⟨F, 3, none⟩ = some (.bool bad) := cellB' h.hF 3 rfl
theorem FrQ.r0 : w.cell? ⟨R, 0, none⟩ = some fv := cellB' h.rm.hR 0 rfl
theorem FrQ.r1 : w.cell? ⟨R, 1, none⟩ = some (.slice (some ⟨M, 0, none⟩) mem.length mem.length) := cellB' h.rm.hR 1 rfl
theorem FrQ.r3 : w.cell? ⟨R, 3, none⟩ = some (.int .i64 cnt) := cellB' h.rm.hR 3 rfl
theorem FrQ.m {i : Nat} {o : Option Int} (hi : mem[i]? = some o) : w.cell? ⟨M, i * 2, none⟩ = some (.bool o.isSome) ∧ w.cell? ⟨M, i * 2 + 1, none⟩ = some (.int .i64 (o.getD 0)) := by
  have hm := memQ_get hi
  rw [cellB h.rm.hM, cellB h.rm.hM]
  exact hm
theorem FrQ.slot {i : Nat} {x : ByteArray × Option Int} (hi : vs[i]? = some x) : ∃ g c, vv = .slice (some ⟨g, 0, none⟩) vs.length c ∧ g < w.heap.size ∧ w.cell? ⟨g, i * 3, none⟩ = some (.string x.1) ∧
    w.cell? ⟨g, i * 3 + 1, none⟩ = some (.bool x.2.isSome) ∧ w.cell? ⟨g, i * 3 + 2, none⟩ = some (.int .i64 (x.2.getD 0)) ∧ w.frozen? ⟨g, i * 3 + 1, none⟩ = false ∧ w.frozen? ⟨g, i * 3 + 2, none⟩ = false := by
  have hlt := (List.getElem?_eq_some_iff.1 hi).1
  rcases h.own.2 with ⟨_, h0⟩ | ⟨g, cap, cur, hv, _, hg, _, _, _, htake⟩
  · omega
  · obtain ⟨q0, q1, q2⟩ := slots_get vs i x hi
    have hc : ∀ j u, j < vs.length * 3 → (vs.flatMap slotC)[j]? = some u → w.cell? ⟨g, j, none⟩ = some u := fun j u hj hu => by
      rw [cellB hg]
      rw [← htake, List.getElem?_take, if_pos hj] at hu
      simpa using hu
    exact ⟨g, cap, hv, lt_of_block hg, hc _ _ (by omega) q0, hc _ _ (by omega) q1, hc _ _ (by omega) q2, frozB hg _, frozB hg _⟩
end
theorem bytes_inj {a b : ByteArray} (h : a.toList = b.toList) : a = b := by
  rw [ByteArray.toList_eq, ByteArray.toList_eq] at h
  cases a with | mk x => cases b with | mk y =>
  simp only at h
  rw [Array.toList_inj.1 h]
def addF (base : Nat) (at_ : Int) : Int := if at_ < 0 ∨ 2000 < at_ then -1 else base + at_
set_option maxHeartbeats 1000000 in
theorem add_q (w : World) (base : Nat) (at_ : Int) (hb : base ≤ 1000) (ha : I64 at_) : Calls Tryz.prog 69 #[.int .i64 base, .int .i64 at_] w (Ret (.int .i64 (addF base at_)) w) := by
  unfold I64 at ha
  have d0 : decide ((base : Int) < 0) = false := decide_eq_false (by omega)
  go_enter Tryz.func69, Tryz.ntmps69
  by_cases h1 : at_ < 0
  · have d1 : decide (at_ < 0) = true := decide_eq_true h1
    have E := Lib.hid (show addF base at_ = -1 by unfold addF; rw [if_pos (.inl h1)])
    go_wp2_with fail
    go_ret
    exact ⟨by rw [E.out]; rfl, rfl⟩
  have d1 : decide (at_ < 0) = false := decide_eq_false h1
  by_cases h2 : 2000 < at_
  · have d2 : decide (2000 < at_) = true := decide_eq_true h2
    have E := Lib.hid (show addF base at_ = -1 by unfold addF; rw [if_pos (.inr h2)])
    go_wp2_with fail
    go_ret
    exact ⟨by rw [E.out]; rfl, rfl⟩
  have d2 : decide (2000 < at_) = false := decide_eq_false h2
  have E := Lib.hid (show addF base at_ = base + at_ by unfold addF; rw [if_neg (by omega)])
  go_wp2_with fail
  go_ret
  exact ⟨by rw [E.out]; rfl, rfl⟩
def placeF (base len : Nat) (n : Int) : Int := if 0 ≤ n ∧ n < (len : Int) - base then base + n else -1
set_option maxHeartbeats 1000000 in
theorem place_q {W w : World} {lo F R M : Nat} {fv : Value} {base : Nat} {mem : Mem} {cnt : Int} {vs : Vars} {bad : Bool} {vv : Value} (h : FrQ W w lo F R M fv base mem cnt vs bad vv) (n : Int) (hn : I64 n) :
    Calls Tryz.prog 67 #[.pointer (some ⟨F, 0, none⟩), .int .i64 n] w (RetB (.int .i64 (placeF base mem.length n)) w) := by
  have c0 := h.c0
  have c1 := h.c1
  have r1 := h.r1
  have hFl := lt_of_block h.hF
  have hRl := lt_of_block h.rm.hR
  have hml := h.rm.mlen
  have hbl := h.blen
  clear h
  unfold I64 at hn
  have hbl' : (base : Int) ≤ (mem.length : Int) := by omega
  go_enter Tryz.func67, Tryz.ntmps67
  by_cases h1 : n < 0
  · have d1 : decide (n < 0) = true := decide_eq_true h1
    have E := Lib.hid (show placeF base mem.length n = -1 by unfold placeF; rw [if_neg (by omega)])
    go_wp2_with fail
    go_quiet (fail)
    go_wp2_with fail
    go_ret
    exact ⟨by rw [E.out]; rfl, Below.drewN' (Below.refl _ _) _⟩
  have d1 : decide (n < 0) = false := decide_eq_false h1
  by_cases h2 : (mem.length : Int) - base ≤ n
  · have d2 : decide ((mem.length : Int) - base ≤ n) = true := decide_eq_true h2
    have E := Lib.hid (show placeF base mem.length n = -1 by unfold placeF; rw [if_neg (by omega)])
    go_wp2_with fail
    go_quiet (fail)
    go_wp2_with fail
    go_ret
    exact ⟨by rw [E.out]; rfl, Below.drewN' (Below.refl _ _) _⟩
  have d2 : decide ((mem.length : Int) - base ≤ n) = false := decide_eq_false h2
  have E := Lib.hid (show placeF base mem.length n = base + n by unfold placeF; rw [if_pos (by omega)])
  go_wp2_with fail
  go_quiet (fail)
  go_wp2_with fail
  go_ret
  exact ⟨by rw [E.out]; rfl, Below.drewN' (Below.refl _ _) _⟩
def GetRel (vs : Vars) (s : ByteArray) (_F0 : Nat) (w : World) (i : Value) (wr : World) : Prop := ∃ j : Nat, j ≤ vs.length ∧ i = .int .i64 j ∧ (∀ (x : Nat) (y : ByteArray × Option Int), x < j → vs[x]? = some y → y.1 ≠ s) ∧ wr = w
set_option maxRecDepth 100000 in
set_option maxHeartbeats 1000000 in
theorem get_q {W w : World} {lo F R M : Nat} {fv : Value} {base : Nat} {mem : Mem} {cnt : Int} {vs : Vars} {bad : Bool} {vv : Value} (h : FrQ W w lo F R M fv base mem cnt vs bad vv) (s : ByteArray) :
    Calls Tryz.prog 44 #[.pointer (some ⟨F, 0, none⟩), .string s] w (RetB (cellQ (getv vs s)) w) := by
  obtain ⟨Av, cv, rfl⟩ := own_sl h.own
  have hvm := own_max h.own
  go_enter Tryz.func44, Tryz.ntmps44
  go_wp2_with fail
  obtain ⟨w1, hw1⟩ : ∃ w1, w1 = w.alloc (Obj.cells #[Value.bool false, Value.int IntKind.i64 0] 75) := ⟨_, rfl⟩
  rw [← hw1]
  have hb1 : Below w.heap.size w w1 := by rw [hw1]; exact (Below.refl _ _).alloc (Nat.le_refl _) _
  have hN1 : w1.heap[w.heap.size]? = some (Obj.cells #[Value.bool false, Value.int IntKind.i64 0] 75 (0, 0)) := by rw [hw1]; exact heap_alloc_at _ _
  have h1 := h.on hb1
  have H := Lib.hid h1
  have HB1 := Lib.hid hb1
  have HN1 := Lib.hid hN1
  have c2 := h1.c2
  have hFl := lt_of_block h1.hF
  clear hw1 h hb1 hN1 h1
  go_wp2_with fail
  go_loopw [5] (fun i wr => GetRel vs s F w1 i wr) (fun i _ => vs.length - (intOf i).toNat)
  case atStart => exact ⟨0, Nat.zero_le _, rfl, fun x y hx => by omega, rfl⟩
  case round =>
    obtain ⟨j, hj, rfl, hne, rfl⟩ := hrel
    have HNE := Lib.hid hne
    clear hne
    by_cases hlt : j < vs.length
    · obtain ⟨g, cg, hv, hgl, q0, q1, q2, z1, z2⟩ := H.out.slot (List.getElem?_eq_getElem hlt)
      injection hv with e1 e2 e3
      subst e1 e3
      clear e2
      have HG := Lib.hid (List.getElem?_eq_getElem hlt)
      generalize vs[j] = y at q0 q1 q2 HG
      obtain ⟨t, o⟩ := y
      simp only at q0 q1 q2
      have n0 := cellB' HN1.out 0 rfl
      have n1 := cellB' HN1.out 1 rfl
      have z3 := frozB HN1.out 0
      have z4 := frozB HN1.out 1
      have hNl := lt_of_block HN1.out
      by_cases hts : t = s
      · have d1 : (t.toList == s.toList) = true := by rw [hts]; simp
        have E := Lib.hid (show getv vs s = o from getv_at vs s j o (by rw [← hts]; exact HG.out) HNE.out)
        go_wp2_with fail
        have k0 := heap_setCell_eq (heap_setCell_eq HN1.out 0 (.bool o.isSome)) 1 (.int .i64 (o.getD 0))
        have x0 := cellB' k0 0 rfl
        have x1 := cellB' k0 1 rfl
        refine bodyPost_ret (v := cellQ o) (by simp [results, Tryz.results44, go_sem, x0, x1, cellQ]) rfl ?_
        exact ⟨by rw [E.out], (HB1.out.setCell (Nat.le_refl _) _).setCell (Nat.le_refl _) _⟩
      · have d1 : (t.toList == s.toList) = false := by rw [beq_eq_false_iff_ne]; intro e; exact hts (bytes_inj e)
        go_wp2_with fail
        refine ⟨⟨j + 1, hlt, by simp, fun x y hx hy => ?_, rfl⟩, by simp [intOf]; omega⟩
        rcases Nat.lt_or_ge x j with h | h
        · exact HNE.out x y h hy
        · obtain rfl : x = j := by omega
          rw [HG.out] at hy
          simp only [Option.some.injEq] at hy
          subst hy
          exact hts
    · obtain rfl : j = vs.length := by omega
      have n0 := cellB' HN1.out 0 rfl
      have n1 := cellB' HN1.out 1 rfl
      have z3 := frozB HN1.out 0
      have z4 := frozB HN1.out 1
      have hNl := lt_of_block HN1.out
      have E := Lib.hid (show getv vs s = none from getv_none vs s (fun x y hy => HNE.out x y (List.getElem?_eq_some_iff.1 hy).1 hy))
      go_wp2_with fail
      have k0 := heap_setCell_eq (heap_setCell_eq HN1.out 0 (.bool false)) 1 (.int .i64 0)
      have x0 := cellB' k0 0 rfl
      have x1 := cellB' k0 1 rfl
      refine bodyPost_ret (v := cellQ none) (by simp [results, Tryz.results44, go_sem, x0, x1, cellQ]) rfl ?_
      exact ⟨by rw [E.out], (HB1.out.setCell (Nat.le_refl _) _).setCell (Nat.le_refl _) _⟩
end Go.Proofs.YtoaajpppbjaomaaGreatDoor
/- The reference's set. -/
namespace Go.Proofs.YtoaajpppbjaomaaGreatDoor
open Go.RowKit
theorem keepV_own {lo : Nat} {S : List Nat} {w w' : World} {sz n : Nat} {vv : Value} {xs : List Value} (h : w.ownsRow lo 127 sz vv n xs) (hk : Keep vv.ownBlock.toList w w') : KeepV lo S w w' :=
  ⟨hk.os, hk.tape, hk.output, hk.size, fun k o hw _ ho => (hk.block k (Array.getElem?_eq_some_iff.1 hw).1 (fun hm => by
    rcases h.2 with ⟨rfl, _⟩ | ⟨g, cap, cur, rfl, hg, hb, _⟩
    · simp [Value.ownBlock] at hm
    · simp [Value.ownBlock] at hm
      subst hm
      rw [hw] at hb
      simp only [Option.some.injEq] at hb
      rcases ho with h1 | h1
      · omega
      · exact h1 ⟨_, _, hb⟩)).trans hw⟩
theorem Tryz.infoSlot : (Tryz.prog.info? 127).map (fun i => (i.zero, i.size, i.bytes)) = some (some (.agg #[.string ⟨#[]⟩, .bool false, .int .i64 0]), 3, 32) := by kernel_rfl
theorem FrQ.Fown {W w : World} {lo F R M : Nat} {fv : Value} {base : Nat} {mem : Mem} {cnt : Int} {vs : Vars} {bad : Bool} {vv : Value} (h : FrQ W w lo F R M fv base mem cnt vs bad vv) : vv.ownBlock ≠ some F := by
  intro hg
  rcases h.own.2 with ⟨e, _⟩ | ⟨g, cap, cur, e, _, hb, _⟩
  · rw [e] at hg; simp [Value.ownBlock] at hg
  · rw [e] at hg
    simp only [Value.ownBlock, Option.some.injEq] at hg
    subst hg
    rw [h.hF] at hb
    simp only [Option.some.injEq, Obj.cells.injEq] at hb
    exact absurd hb.2.1 (by decide)
structure SetP (W : World) (lo F R M : Nat) (fv : Value) (base : Nat) (mem : Mem) (cnt : Int) (vs' : Vars) (bad : Bool) (w : World) (e : Ending) (w' : World) : Prop where
  ret : e = .returned (.tuple #[])
  fr : ∃ vv', FrQ W w' lo F R M fv base mem cnt vs' bad vv'
  keep : KeepV lo [F] w w'
theorem own_put {w : World} {lo g c : Nat} {vs : Vars} (h : w.ownsRow lo 127 3 (.slice (some ⟨g, 0, none⟩) vs.length c) vs.length (vs.flatMap slotC)) {i : Nat} {s : ByteArray} {x o : Option Int} (hi : vs[i]? = some (s, x)) :
    ((w.setCell ⟨g, i * 3 + 1, none⟩ (.bool o.isSome)).setCell ⟨g, i * 3 + 2, none⟩ (.int .i64 (o.getD 0))).ownsRow lo 127 3 (.slice (some ⟨g, 0, none⟩) vs.length c) (vs.set i (s, o)).length ((vs.set i (s, o)).flatMap slotC) ∧
      Keep [g] w ((w.setCell ⟨g, i * 3 + 1, none⟩ (.bool o.isSome)).setCell ⟨g, i * 3 + 2, none⟩ (.int .i64 (o.getD 0))) := by
  have hlt := (List.getElem?_eq_some_iff.1 hi).1
  rcases h.2 with ⟨e, h0⟩ | ⟨g', cap, cur, e, hlo, hg, h1, h2, h3, h4⟩
  · cases e
  · injection e with e1 e2 e3
    injection e1 with e1
    injection e1 with e1 _ _
    subst e1 e3
    refine ⟨⟨slots_len _, .inr ⟨g, c, _, by rw [List.length_set], hlo, heap_setCell_eq (heap_setCell_eq hg (i * 3 + 1) _) (i * 3 + 2) _, by rw [List.length_set]; exact h1, h2, by simpa using h3, ?_⟩⟩,
      ((Keep.refl _ _).setCell (.inl (by simp)) _).setCell (.inl (by simp)) _⟩
    rw [Array.toList_setIfInBounds, Array.toList_setIfInBounds, List.length_set, List.take_set, List.take_set, h4]
    exact slots_set vs i s x o hi
theorem FrQ.put {W w : World} {lo F R M : Nat} {fv : Value} {base : Nat} {mem : Mem} {cnt : Int} {vs : Vars} {bad : Bool} {g c : Nat} (h : FrQ W w lo F R M fv base mem cnt vs bad (.slice (some ⟨g, 0, none⟩) vs.length c)) {i : Nat} {s : ByteArray} {x o : Option Int} (hi : vs[i]? = some (s, x)) (ho : ∀ v, o = some v → I64 v) :
    FrQ W ((w.setCell ⟨g, i * 3 + 1, none⟩ (.bool o.isSome)).setCell ⟨g, i * 3 + 2, none⟩ (.int .i64 (o.getD 0))) lo F R M fv base mem cnt (vs.set i (s, o)) bad (.slice (some ⟨g, 0, none⟩) vs.length c) ∧
      KeepV lo [F] w ((w.setCell ⟨g, i * 3 + 1, none⟩ (.bool o.isSome)).setCell ⟨g, i * 3 + 2, none⟩ (.int .i64 (o.getD 0))) := by
  obtain ⟨h1, h2⟩ := own_put h.own (o := o) hi
  have hkv : KeepV lo [] w _ := keepV_own (S := []) h.own (by simpa [Value.ownBlock] using h2)
  have hglo := h.own.lt g rfl
  have hR := hkv.cells h.rm.hR (by simp) (by decide)
  have hM := hkv.cells h.rm.hM (by simp) (by decide)
  refine ⟨{ h with
    rm := { h.rm with below := h2.below h.rm.below h.rm.below.size (fun y hy => by have := h.geL; simp at hy; omega), hR := hR, hM := hM }
    hF := hkv.cells h.hF (by simp) (by decide)
    own := h1
    vsI := fun t v hv => ?_ }, hkv.mono (by simp)⟩
  rcases List.mem_or_eq_of_mem_set hv with h3 | h3
  · exact h.vsI t v h3
  · injection h3 with h4 h5
    exact ho v h5.symm
theorem FrQ.grow {W w w' : World} {lo F R M : Nat} {fv : Value} {base : Nat} {mem : Mem} {cnt : Int} {vs : Vars} {bad : Bool} {vv : Value} (h : FrQ W w lo F R M fv base mem cnt vs bad vv) {s : ByteArray} {o : Option Int} (ho : ∀ v, o = some v → I64 v) {ob : Obj} {v' : Value}
    (hg : (w.drew.alloc ob).grownBy w' vv.ownBlock) (hown : w'.ownsRow lo 127 3 v' (vs.length + 1) (vs.flatMap slotC ++ [.string s, .bool o.isSome, .int .i64 (o.getD 0)])) :
    FrQ W (w'.setCell ⟨F, 2, none⟩ v') lo F R M fv base mem cnt (vs ++ [(s, o)]) bad v' ∧ KeepV lo [F] w (w'.setCell ⟨F, 2, none⟩ v') := by
  have hb : Below w.heap.size w (w.drew.alloc ob) := (Below.refl w.heap.size w).drew.alloc (Nat.le_refl _) _
  have hk1 : KeepV lo [] w w' := (KeepV.of_below hb).trans (keepV_own (own_keep h.own (Keep.of_below (S := []) hb) (fun x hx => by cases hx)) (keep_of_grown hg))
  have hR := hk1.cells h.rm.hR (by simp) (by decide)
  have hM := hk1.cells h.rm.hM (by simp) (by decide)
  have hF := hk1.cells h.hF (by simp) (by decide)
  have hk2 : Keep [F] w' (w'.setCell ⟨F, 2, none⟩ v') := (Keep.refl _ _).setCell (.inl (by simp)) _
  have hFl := h.geF
  have hks : KeepV lo [F] w (w'.setCell ⟨F, 2, none⟩ v') := (hk1.mono (by simp)).trans (.of_keep hk2)
  refine ⟨⟨{ h.rm with below := ?_, hR := ?_, hM := ?_ }, ?_, ⟨?_, ?_⟩, h.geF, h.geL, h.ltR, h.ltM, h.blen, h.memI, fun t v hv => ?_⟩, hks⟩
  · exact hks.below h.rm.below (Nat.le_refl _) h.geL (fun x hx => by have := h.geL; simp at hx; omega)
  · exact (hk2.block R (lt_of_block hR) (by have := h.FR; simp; omega)).trans hR
  · exact (hk2.block M (lt_of_block hM) (by have := h.FM; simp; omega)).trans hM
  · rw [heap_setCell_eq hF]; rfl
  · exact slots_len _
  · have h2 : w'.ownsRow lo 127 3 v' (vs ++ [(s, o)]).length ((vs ++ [(s, o)]).flatMap slotC) := by simpa [slotC] using hown
    have h3 : (w'.setCell ⟨F, 2, none⟩ v').ownsRow lo 127 3 v' (vs ++ [(s, o)]).length ((vs ++ [(s, o)]).flatMap slotC) := by
      refine ⟨h2.1, ?_⟩
      rcases h2.2 with h4 | ⟨g, cap, cur, e, hlo, hg', r⟩
      · exact .inl h4
      · refine .inr ⟨g, cap, cur, e, hlo, (hk2.block g (lt_of_block hg') (fun hm => ?_)).trans hg', r⟩
        simp at hm
        subst hm
        rw [hF] at hg'
        simp only [Option.some.injEq, Obj.cells.injEq] at hg'
        exact absurd hg'.2.1 (by decide)
    exact h3.2
  · rcases List.mem_append.1 hv with h3 | h3
    · exact h.vsI t v h3
    · simp at h3
      exact ho v h3.2.symm
def SetRel (vs : Vars) (s : ByteArray) (w : World) (i : Value) (wr : World) : Prop := ∃ j : Nat, j ≤ vs.length ∧ i = .int .i64 j ∧ (∀ (x : Nat) (y : ByteArray × Option Int), x < j → vs[x]? = some y → y.1 ≠ s) ∧ wr = w
set_option maxRecDepth 100000 in
set_option maxHeartbeats 2000000 in
theorem set_q {W w : World} {lo F R M : Nat} {fv : Value} {base : Nat} {mem : Mem} {cnt : Int} {vs : Vars} {bad : Bool} {vv : Value} (h : FrQ W w lo F R M fv base mem cnt vs bad vv) (s : ByteArray) (o : Option Int) (ho : ∀ v, o = some v → I64 v) (hn : vs.length ≤ 1048576) :
    Calls Tryz.prog 42 #[.pointer (some ⟨F, 0, none⟩), .string s, cellQ o] w (SetP W lo F R M fv base mem cnt (setv vs s o) bad w) := by
  obtain ⟨Av, cv, rfl⟩ := own_sl h.own
  go_enter Tryz.func42, Tryz.ntmps42
  unfold cellQ
  go_wp2_with fail
  obtain ⟨w1, hw1⟩ : ∃ w1, w1 = w.alloc (Obj.cells #[Value.bool o.isSome, Value.int IntKind.i64 (o.getD 0)] 75) := ⟨_, rfl⟩
  rw [← hw1]
  have hb1 : Below w.heap.size w w1 := by rw [hw1]; exact (Below.refl _ _).alloc (Nat.le_refl _) _
  have hN1 : w1.heap[w.heap.size]? = some (Obj.cells #[Value.bool o.isSome, Value.int IntKind.i64 (o.getD 0)] 75 (0, 0)) := by rw [hw1]; exact heap_alloc_at _ _
  have h1 := h.on hb1
  have H := Lib.hid h1
  have HB1 := Lib.hid hb1
  have HN1 := Lib.hid hN1
  have c2 := h1.c2
  have hFl := lt_of_block h1.hF
  have hFw := lt_of_block h.hF
  clear hw1 h hb1 hN1 h1
  go_wp2_with fail
  go_loopw [6] (fun i wr => SetRel vs s w1 i wr) (fun i _ => vs.length - (intOf i).toNat)
  case atStart => exact ⟨0, Nat.zero_le _, rfl, fun x y hx => by omega, rfl⟩
  case round =>
    obtain ⟨j, hj, rfl, hne, rfl⟩ := hrel
    have HNE := Lib.hid hne
    have n0 := cellB' HN1.out 0 rfl
    have n1 := cellB' HN1.out 1 rfl
    have hNl := lt_of_block HN1.out
    clear hne
    by_cases hlt : j < vs.length
    · obtain ⟨g, cg, hv, hgl, q0, q1, q2, z1, z2⟩ := H.out.slot (List.getElem?_eq_getElem hlt)
      injection hv with e1 e2 e3
      subst e1 e3
      clear e2
      have HG := Lib.hid (List.getElem?_eq_getElem hlt)
      generalize vs[j] = y at q0 q1 q2 HG
      obtain ⟨t, x⟩ := y
      simp only at q0 q1 q2
      by_cases hts : t = s
      · have d1 : (t.toList == s.toList) = true := by rw [hts]; simp
        have E := Lib.hid (show setv vs s o = vs.set j (s, o) from setv_at vs s o j x (by rw [← hts]; exact HG.out) HNE.out)
        go_wp2_with fail
        refine region_qtail 8 (by kernel_rfl) (by kernel_rfl) ?_
        simp only [List.take_succ_cons, List.take_zero, List.drop_succ_cons, List.drop_zero]
        repeat (go_big_quiet_step (fail))
        refine wpQuiet_nil ?_
        intro kq
        have hb5 := Below.drewN' (Below.refl wr.heap.size wr) kq
        have H5 := Lib.hid (H.out.on hb5)
        have HK5 := Lib.hid (HB1.out.trans (hb5.mono HB1.out.size))
        clear hb5 q0 q1 q2 z1 z2 n0 n1 hNl HN1 H HB1 c2 hFl hgl
        generalize wr.drewN kq = w5 at H5 HK5 ⊢
        obtain ⟨g', cg', hv, hgl, q0, q1, q2, z1, z2⟩ := H5.out.slot HG.out
        injection hv with e1 e2 e3
        injection e1 with e1
        injection e1 with e1 _ _
        subst e1 e3
        clear e2
        have HP := Lib.hid (H5.out.put HG.out ho)
        go_wp2_with fail
        go_end0
        exact ⟨rfl, ⟨_, by rw [E.out, ← hts]; exact HP.out.1⟩, (KeepV.of_below HK5.out).trans HP.out.2⟩
      · have d1 : (t.toList == s.toList) = false := by rw [beq_eq_false_iff_ne]; intro e; exact hts (bytes_inj e)
        go_wp2_with fail
        refine ⟨⟨j + 1, hlt, by simp, fun x y hx hy => ?_, rfl⟩, by simp [intOf]; omega⟩
        rcases Nat.lt_or_ge x j with h | h
        · exact HNE.out x y h hy
        · obtain rfl : x = j := by omega
          rw [HG.out] at hy
          simp only [Option.some.injEq] at hy
          subst hy
          exact hts
    · obtain rfl : j = vs.length := by omega
      have E := Lib.hid (show setv vs s o = vs ++ [(s, o)] from setv_none vs s o (fun x y hy => HNE.out x y (List.getElem?_eq_some_iff.1 hy).1 hy))
      have HOWN := Lib.hid H.out.own
      have HFO := Lib.hid H.out.Fown
      have HFB := Lib.hid H.out.hF
      have hlo := Nat.le_trans H.out.geF (Nat.le_of_lt (lt_of_block H.out.hF))
      go_wp2_with fail
      go_region_law (refine step_append_one rfl (.tmp 38) (.tmp 42) rfl Tryz.underlying101 Tryz.infoSlot rfl (by decide) (by decide) lo _ vs.length _ rfl (World.ownsRow.alloc (w := wr.drew) HOWN.out _) ⟨wr.heap.size, 0, none⟩ [.string s, .bool o.isSome, .int .i64 (o.getD 0)] rfl rfl (news_at wr.drew _ _) (by intro u hu; simp at hu; rcases hu with rfl | rfl | rfl <;> rfl) (by omega) (by simp; omega) ?_; intro v' w' hown' hgr hfr; obtain ⟨A', c', hv', -⟩ := own_slice hown'; subst hv'; have hbF := (hgr.block F (by simp; omega) (Ne.symm HFO.out)).trans ((heap_alloc_lt (w := wr.drew) hFl).trans HFB.out); have l3 := cellB' hbF 2 rfl; have z3 := frozB hbF 2; have hFl' := lt_of_block hbF; have HO := Lib.hid hown'; have HG := Lib.hid hgr; clear hown' hgr hfr hbF)
      all_goals
        obtain ⟨p1, p2⟩ := H.out.grow ho (HG.out : (wr.drew.alloc _).grownBy _ _) HO.out
        go_end0
        exact ⟨rfl, ⟨_, by rw [E.out]; exact p1⟩, (KeepV.of_below HB1.out).trans p2⟩
end Go.Proofs.YtoaajpppbjaomaaGreatDoor
