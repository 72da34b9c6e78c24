/- Texts merged by program: parts Cn, Co, Cp, Cq. -/
import Derived.Test.YtoaajpppbjaomaaGreatDoorR12
/- The reference's statements: the walk of do. -/
namespace Go.Proofs.YtoaajpppbjaomaaGreatDoor
open Go.RowKit
def DoRelQ (W : World) (lo F R M : Nat) (fv : Value) (base : Nat) (I : Inst) (funs : List FN) (l : List FS) (st : St) (w : World) (i : Value) (wr : World) : Prop :=
  ∃ (j : Nat) (sj : St) (vj : Value), j ≤ l.length ∧ i = .int .i64 j ∧ FrQ W wr lo F R M fv base sj.mem sj.cnt sj.vs false vj ∧ doL I funs base l st = doL I funs base (l.drop j) sj ∧ sj.vs.length + wL (l.drop j) ≤ 1048576 ∧ KeepV lo [R, M, F] w wr
theorem wL_drop {l : List FS} {j : Nat} {s : FS} (h : l[j]? = some s) : wL (l.drop j) = wS s + wL (l.drop (j + 1)) := by
  obtain ⟨hlt, he⟩ := List.getElem?_eq_some_iff.1 h
  rw [List.drop_eq_getElem_cons hlt, he]
  rfl
theorem FrQ.setCnt {W w : World} {lo F R M : Nat} {fv : Value} {base : Nat} {mem : Mem} {cnt : Int} {vs : Vars} {bad : Bool} {vv : Value} (h : FrQ W w lo F R M fv base mem cnt vs bad vv) (c : Int) :
    FrQ W (w.setCell ⟨R, 3, none⟩ (.int .i64 c)) lo F R M fv base mem c vs bad vv ∧ Keep [R] w (w.setCell ⟨R, 3, none⟩ (.int .i64 c)) := by
  have hk : Keep [R] w (w.setCell ⟨R, 3, none⟩ (.int .i64 c)) := (Keep.refl _ _).setCell (.inl (by simp)) _
  refine ⟨{ h with
    rm := { h.rm with
      below := hk.below h.rm.below h.rm.below.size (fun x hx => by have := h.rm.geR; simp at hx; omega)
      hR := by rw [heap_setCell_eq h.rm.hR]; rfl
      hM := (hk.block M (lt_of_block h.rm.hM) (by have := h.rm.RM; simp; omega)).trans h.rm.hM }
    hF := (hk.block F (lt_of_block h.hF) (by have := h.FR; simp; omega)).trans h.hF
    own := own_keep h.own hk (fun x hx => by have := h.ltR; simp at hx; omega) }, hk⟩
theorem FrQ.putMem {W w : World} {lo F R M : Nat} {fv : Value} {base : Nat} {mem : Mem} {cnt : Int} {vs : Vars} {bad : Bool} {vv : Value} (h : FrQ W w lo F R M fv base mem cnt vs bad vv) (i : Nat) (v : Int) (hi : i < mem.length) (hv : I64 v) :
    FrQ W ((w.setCell ⟨M, i * 2, none⟩ (.bool true)).setCell ⟨M, i * 2 + 1, none⟩ (.int .i64 v)) lo F R M fv base (mem.set i (some v)) cnt vs bad vv ∧ Keep [M] w ((w.setCell ⟨M, i * 2, none⟩ (.bool true)).setCell ⟨M, i * 2 + 1, none⟩ (.int .i64 v)) := by
  obtain ⟨h1, h2⟩ := h.rm.put i (some v) hi
  refine ⟨h.newMem (h2.mono (by simp)) h1 (by simp) (setM_I64 h.memI hv), h2⟩
theorem rstF_len {funs : List FN} {base : Nat} {at_ : Int} {k : Nat} {mem mem' : Mem} (hr : RightP funs) (hk : k < funs.length) (hb : base ≤ mem.length) (h : rstF funs base at_ (k : Int) mem = some mem') : mem'.length = mem.length := by
  unfold rstF at h
  split at h
  · rename_i hc
    simp only [Option.some.injEq, Int.toNat_natCast] at h hc
    have hcl := hr.cells k hk
    have hf : further mem.length base at_ ≤ mem.length := by unfold further; split <;> omega
    rw [← h, anewF_length funs hr _ _ _ _ hk (by omega)]
  · cases h
theorem rstF_I64 {funs : List FN} {base : Nat} {at_ : Int} {k : Nat} {mem mem' : Mem} (hm : ∀ v, some v ∈ mem → I64 v) (h : rstF funs base at_ (k : Int) mem = some mem') : ∀ v, some v ∈ mem' → I64 v := by
  unfold rstF at h
  split at h
  · simp only [Option.some.injEq] at h
    rw [← h]
    exact anewF_I64 funs _ _ _ _ hm
  · cases h
set_option maxRecDepth 100000 in
set_option maxHeartbeats 8000000 in
theorem doq_step {W : World} {lo F R M : Nat} {fv : Value} {base : Nat} {I : Inst} {funs : List FN} {nf K n : Nat} (hrep : RepV (RepF W nf) 6 W fv funs) (hr : RightP funs) (hK : K ≤ funs.length) (HI : InstQC W R M fv I funs K) (hIL : ∀ k base ins mem cnt l, (I k base ins mem cnt).1 = some l → l.length = (funs.getD k default).results.length)
    (HD : DoQC W lo F R M fv base I funs K n) : DoQC W lo F R M fv base I funs K (n + 1) := by
  intro l A c w st vv h hc hl hn
  have hll := hl.1
  have HL := Lib.hid hl
  have HH := Lib.hid h
  have HC := Lib.hid hc
  have HI' := Lib.hid HI
  have HIL := Lib.hid hIL
  have HDO := Lib.hid HD
  have HREP := Lib.hid hrep
  obtain ⟨A0, c0, hfv, -⟩ := hrep.sl
  generalize hl0 : funs.length = l0 at hfv
  subst hfv
  generalize hdl : doL I funs base l st = dl
  have HDL := Lib.hid hdl
  clear hl h hc HI hIL HD hrep hdl
  go_enter Tryz.func43, Tryz.ntmps43
  go_wp2_with fail
  go_loopw [5] (fun i wr => DoRelQ W lo F R M (.slice A0 l0 c0) base I funs l st w i wr) (fun i _ => l.length - (intOf i).toNat)
  case atStart => exact ⟨0, st, vv, Nat.zero_le _, rfl, HH.out, rfl, hn, KeepV.refl _ _ _⟩
  case round =>
    obtain ⟨j, sj, vj, hj, rfl, hRj, hdo, hvn, hkj⟩ := hrel
    by_cases hlt : j < l.length
    · obtain ⟨b, o, c', op, name, at_, fn, names, e, args, arms, aN, cN, eo, en, ev, aC, lC, cC, aK, lK, cK, aA, cA, aR, cR, he, hbW, hs, q0, q1, q2, q3, q4, q5, q6, q7, q8, q9, q10, q11, i1, i2, i3, p1, p2, p3, p4⟩ := stmt_cells HL.out hRj.rm.below hlt
      injection he with he1 he2 he3
      subst he1
      have hbw : b < wr.heap.size := Nat.lt_of_lt_of_le hbW hRj.rm.below.size
      have g0 := hRj.c0
      have g1 := hRj.r3
      have gf : wr.frozen? ⟨R, 3, none⟩ = false := frozB hRj.rm.hR 3
      have hRl := lt_of_block hRj.rm.hR
      have hFl := lt_of_block hRj.hF
      have hbR : b ≠ R := by have := hRj.rm.geR; omega
      have hgj : l[j]? = some (FS.mk op name at_ fn names e args arms) := by rw [List.getElem?_eq_getElem hlt, hs]
      have HG := Lib.hid hgj
      have HR0 := Lib.hid (hRj.setCnt (wrap64 (sj.cnt + 1)))
      have HDR := Lib.hid hdo
      have HKJ := Lib.hid hkj
      clear hRj hdo hkj hs he2 he3 hgj
      go_upto_region 6 with fail
      obtain ⟨w1, hw1⟩ : ∃ w1, w1 = (wr.setCell ⟨R, 3, none⟩ (.int .i64 (wrap64 (sj.cnt + 1)))).alloc (Obj.cells #[Value.int IntKind.i64 op, Value.string name, Value.int IntKind.i64 at_, Value.int IntKind.i64 fn, Value.slice aN names.length cN, Value.int IntKind.i64 eo, Value.string en, Value.int IntKind.i64 ev, Value.slice aC lC cC, Value.slice aK lK cK, Value.slice aA args.length cA, Value.slice aR arms.length cR] 88) := ⟨_, rfl⟩
      rw [← hw1]
      have hsz0 : (wr.setCell ⟨R, 3, none⟩ (.int .i64 (wrap64 (sj.cnt + 1)))).heap.size = wr.heap.size := by simp [World.setCell]
      have H1 := Lib.hid (show FrQ W w1 lo F R M (.slice A0 l0 c0) base sj.mem (wrap64 (sj.cnt + 1)) sj.vs false vj by rw [hw1]; exact HR0.out.1.on ((Below.refl _ _).alloc (Nat.le_refl _) _))
      have HK1 := Lib.hid (show KeepV lo [R, M, F] w w1 by rw [hw1]; exact (HKJ.out.trans ((KeepV.of_keep HR0.out.2).mono (by simp))).trans (.of_below ((Below.refl _ _).alloc (Nat.le_refl _) _)))
      have hN : w1.heap[wr.heap.size]? = some (.cells #[Value.int IntKind.i64 op, Value.string name, Value.int IntKind.i64 at_, Value.int IntKind.i64 fn, Value.slice aN names.length cN, Value.int IntKind.i64 eo, Value.string en, Value.int IntKind.i64 ev, Value.slice aC lC cC, Value.slice aK lK cK, Value.slice aA args.length cA, Value.slice aR arms.length cR] 88 (0, 0)) := by
        rw [hw1, ← hsz0]; exact heap_alloc_at _ _
      have HN := Lib.hid hN
      have hNl := lt_of_block hN
      have n0 := cellB' hN 0 rfl
      have n1 := cellB' hN 1 rfl
      have n2 := cellB' hN 2 rfl
      have n3 := cellB' hN 3 rfl
      have n5 := cellB' hN 5 rfl
      have n6 := cellB' hN 6 rfl
      have n7 := cellB' hN 7 rfl
      have n8 := cellB' hN 8 rfl
      have n9 := cellB' hN 9 rfl
      generalize hNB : wr.heap.size = N at HN hNl n0 n1 n2 n3 n5 n6 n7 n8 n9 ⊢
      have hFN : F ≠ N := by omega
      have hRN : R ≠ N := by omega
      have hMN : M ≠ N := by have := HR0.out.1.ltM; have := HR0.out.1.geF; omega
      have NEXT := Lib.hid (fun (st' : St) (v' : Value) (w' : World) (hds : doS I funs base (.mk op name at_ fn names e args arms) { sj with cnt := wrap64 (sj.cnt + 1) } = (true, st')) (hf : FrQ W w' lo F R M (.slice A0 l0 c0) base st'.mem st'.cnt st'.vs false v') (hk : KeepV lo [R, M, F] w1 w') =>
        (⟨⟨j + 1, st', v', hlt, by simp, hf, HDR.out.trans (doL_yes HG.out hds), by have h1 := doS_vlen I funs base (.mk op name at_ fn names e args arms) { sj with cnt := wrap64 (sj.cnt + 1) }; rw [hds] at h1; have h2 := wL_drop HG.out; simp only at h1; omega, HK1.out.trans hk⟩, by simp [intOf]; omega⟩ :
          DoRelQ W lo F R M (.slice A0 l0 c0) base I funs l st w (.int .i64 ((j : Int) + 1)) w' ∧ l.length - (intOf (.int .i64 ((j : Int) + 1))).toNat < l.length - (intOf (.int .i64 (j : Int))).toNat))
      have STOP := Lib.hid (fun (st' : St) (w' : World) (hds : doS I funs base (.mk op name at_ fn names e args arms) { sj with cnt := wrap64 (sj.cnt + 1) } = (false, st')) (hf : RMem W w' R M (.slice A0 l0 c0) st'.mem false st'.cnt) (hk : KeepV lo [R, M, F] w1 w') =>
        (by rw [← HDL.out, HDR.out.trans (doL_no HG.out hds)]; exact ⟨HK1.out.trans hk, fun h => (by cases h), fun _ => ⟨rfl, hf⟩⟩ : StQ W lo F R M (.slice A0 l0 c0) base dl w (.returned (.bool false)) w'))
      have hcs := callsL_at HC.out HG.out
      have hvl : sj.vs.length ≤ 1048576 := by omega
      have hsnl := wL_drop HG.out
      clear hw1 hN HR0 g0 g1 gf hbw hsz0 q0 q1 q2 q3 q4 q5 q6 q7 q8 q9 q10 q11
      have hFl1 := lt_of_block H1.out.hF
      by_cases h1 : op = 1
      · subst h1
        go_wp2_with fail
        refine (value_q n e _ _ false p2 H1.out).mono ?_
        rintro e' w2 ⟨rfl, hf2, hk2⟩
        have HVI := Lib.hid (fun v (hv : (value sj.vs sj.mem base e).getD none = some v) => value_I64 H1.out.memI (getv_I64 H1.out.vsI) n e _ v p2 (by cases hx : value sj.vs sj.mem base e with | none => rw [hx] at hv; cases hv | some o => rw [hx] at hv; simp at hv; rw [hv]))
        generalize hval : value sj.vs sj.mem base e = x at hf2 HVI ⊢
        have H2 := Lib.hid hf2
        have HK2 := Lib.hid hk2
        have HN2 := Lib.hid (hk2.cells HN.out (by simp; omega) (by decide))
        have hs2 := hk2.size
        clear hf2 hk2 n0 n2 n3 n5 n6 n7 n8 n9 n1
        generalize hox : x.getD none = ox
        unfold cellQ
        go_upto_region 10 with fail
        obtain ⟨w3, hw3⟩ : ∃ w3, w3 = w2.alloc (Obj.cells #[.bool ox.isSome, .int .i64 (ox.getD 0)] 75) := ⟨_, rfl⟩
        rw [← hw3]
        have hb3 : Below w2.heap.size w2 w3 := by rw [hw3]; exact (Below.refl _ _).alloc (Nat.le_refl _) _
        have hG : w3.heap[w2.heap.size]? = some (Obj.cells #[.bool ox.isSome, .int .i64 (ox.getD 0)] 75 (0, 0)) := by rw [hw3]; exact heap_alloc_at _ _
        have H3 := Lib.hid (H2.out.on hb3)
        have HK3 := Lib.hid (HK2.out.trans (KeepV.of_below hb3))
        have HN3 := Lib.hid ((hb3.block _ (lt_of_block HN2.out)).trans HN2.out)
        have n1 := cellB' HN3.out 1 rfl
        have hNl3 := lt_of_block HN3.out
        have g0 := cellB' hG 0 rfl
        have g1 := cellB' hG 1 rfl
        have hGl := lt_of_block hG
        clear hw3 hb3 hG
        go_wp2_with fail
        refine (set_q H3.out name ox (fun v hv => HVI.out v (by rw [hox, hv])) hvl).mono ?_
        rintro e' w4 ⟨rfl, ⟨v4, hf4⟩, hk4⟩
        have HK4 := Lib.hid (HK3.out.trans hk4)
        have HVAL := Lib.hid hval
        have HOX := Lib.hid hox
        clear hval hox
        cases x with
        | none =>
          have hf4' : FrQ W w4 lo F R M (.slice A0 l0 c0) base sj.mem (wrap64 (sj.cnt + 1)) (setv sj.vs name ox) true v4 := hf4
          have f3 := hf4'.c3
          have hFl4 := lt_of_block hf4'.hF
          have H4 := Lib.hid hf4'
          clear hf4 hf4' hk4
          go_wp2_with fail
          go_ret
          exact STOP.out { sj with cnt := wrap64 (sj.cnt + 1) } _ (by simp [doS, doSet, HVAL.out]) H4.out.rm (HK4.out.mono (by simp))
        | some o =>
          have hf4' : FrQ W w4 lo F R M (.slice A0 l0 c0) base sj.mem (wrap64 (sj.cnt + 1)) (setv sj.vs name ox) false v4 := hf4
          have f3 := hf4'.c3
          have hFl4 := lt_of_block hf4'.hF
          have H4 := Lib.hid hf4'
          clear hf4 hf4' hk4
          go_wp2_with fail
          refine NEXT.out { mem := sj.mem, cnt := wrap64 (sj.cnt + 1), vs := setv sj.vs name ox } v4 _ ?_ H4.out (HK4.out.mono (by simp))
          have := HOX.out
          simp at this
          subst this
          simp [doS, doSet, HVAL.out]
      by_cases h2 : op = 2
      · subst h2
        go_wp2_with fail
        refine (value_q n e _ _ false p2 H1.out).mono ?_
        rintro e' w2 ⟨rfl, hf2, hk2⟩
        have HVI := Lib.hid (fun v (hv : (value sj.vs sj.mem base e) = some (some v)) => value_I64 H1.out.memI (getv_I64 H1.out.vsI) n e _ v p2 hv)
        generalize hval : value sj.vs sj.mem base e = x at hf2 HVI ⊢
        have H2 := Lib.hid hf2
        have HK2 := Lib.hid hk2
        have HN2 := Lib.hid (hk2.cells HN.out (by simp; omega) (by decide))
        have hs2 := hk2.size
        clear hf2 hk2 n0 n1 n3 n5 n6 n7 n8 n9 n2
        generalize hox : x.getD none = ox
        unfold cellQ
        go_upto_region 14 with fail
        obtain ⟨w3, hw3⟩ : ∃ w3, w3 = w2.alloc (Obj.cells #[.bool ox.isSome, .int .i64 (ox.getD 0)] 75) := ⟨_, rfl⟩
        rw [← hw3]
        have hb3 : Below w2.heap.size w2 w3 := by rw [hw3]; exact (Below.refl _ _).alloc (Nat.le_refl _) _
        have hG : w3.heap[w2.heap.size]? = some (Obj.cells #[.bool ox.isSome, .int .i64 (ox.getD 0)] 75 (0, 0)) := by rw [hw3]; exact heap_alloc_at _ _
        have H3 := Lib.hid (H2.out.on hb3)
        have HK3 := Lib.hid (HK2.out.trans (KeepV.of_below hb3))
        have HN3 := Lib.hid ((hb3.block _ (lt_of_block HN2.out)).trans HN2.out)
        have HG3 := Lib.hid hG
        have n2 := cellB' HN3.out 2 rfl
        have hNl3 := lt_of_block HN3.out
        clear hw3 hb3 hG
        go_wp2_with fail
        refine (place_q H3.out at_ i2).mono ?_
        rintro e' w4 ⟨rfl, hb4⟩
        have H4 := Lib.hid (H3.out.on hb4)
        have HK4 := Lib.hid (HK3.out.trans (KeepV.of_below hb4))
        have HG4 := Lib.hid ((hb4.block _ (lt_of_block HG3.out)).trans HG3.out)
        have hGl := lt_of_block HG4.out
        have HVAL := Lib.hid hval
        have hs4 := hb4.size
        clear hval hb4 n2
        cases x with
        | none =>
          obtain rfl : none = ox := hox
          have g0 := cellB' HG4.out 0 rfl
          have H4' := Lib.hid (show FrQ W w4 lo F R M (.slice A0 l0 c0) base sj.mem (wrap64 (sj.cnt + 1)) sj.vs true vj from H4.out)
          have f3 := H4'.out.c3
          have hFl4 := lt_of_block H4'.out.hF
          simp only [Option.isSome_none] at g0
          clear H4
          go_wp2_with fail
          go_ret
          exact STOP.out { sj with cnt := wrap64 (sj.cnt + 1) } _ (by simp [doS, doKeep, HVAL.out]) H4'.out.rm (HK4.out.mono (by simp))
        | some o =>
          obtain rfl : o = ox := hox
          have H4' := Lib.hid (show FrQ W w4 lo F R M (.slice A0 l0 c0) base sj.mem (wrap64 (sj.cnt + 1)) sj.vs false vj from H4.out)
          have f3 := H4'.out.c3
          have f0 := H4'.out.c0
          have r1 := H4'.out.r1
          have hFl4 := lt_of_block H4'.out.hF
          have hRl4 := lt_of_block H4'.out.rm.hR
          clear H4
          cases o with
          | none =>
            have g0 := cellB' HG4.out 0 rfl
            simp only [Option.isSome_none] at g0
            go_wp2_with fail
            go_ret
            exact STOP.out { sj with cnt := wrap64 (sj.cnt + 1) } _ (by simp [doS, doKeep, HVAL.out]) H4'.out.rm (HK4.out.mono (by simp))
          | some v =>
            have g0 := cellB' HG4.out 0 rfl
            have g1 := cellB' HG4.out 1 rfl
            simp only [Option.isSome_some, Option.getD_some] at g0 g1
            by_cases hin : 0 ≤ at_ ∧ at_ < (sj.mem.length : Int) - base
            · obtain ⟨a, rfl⟩ := Int.eq_ofNat_of_zero_le hin.1
              have hp : placeF base sj.mem.length (a : Int) = ((base + a : Nat) : Int) := by unfold placeF; rw [if_pos hin]; omega
              rw [hp]
              have hlen : base + a < sj.mem.length := by omega
              have hml := H4'.out.rm.mlen
              have HIN := Lib.hid hin
              clear hp hin
              go_wp2_with fail
              refine region_qtail 10 (by kernel_rfl) (by kernel_rfl) ?_
              simp only [List.take_succ_cons, List.take_zero, List.drop_succ_cons, List.drop_zero]
              repeat (go_big_quiet_step (fail))
              refine wpQuiet_nil ?_
              intro kq
              have hb5 := Below.drewN' (Below.refl w4.heap.size w4) kq
              have H5 := Lib.hid (H4'.out.on hb5)
              have HK5 := Lib.hid (HK4.out.trans (KeepV.of_below hb5))
              clear hb5 g0 g1 f3 f0 r1 hFl4 hRl4 hGl
              generalize w4.drewN kq = w5 at H5 HK5 ⊢
              obtain ⟨⟨u1, x1⟩, ⟨u2, x2⟩, z1, z2⟩ := cellsQ_get H5.out.rm.hM hlen
              have hMl := lt_of_block H5.out.rm.hM
              have hMF : M ≠ F := Ne.symm H5.out.FM
              have HPM := Lib.hid (H5.out.putMem (base + a) v hlen (HVI.out v rfl))
              have f3 := (World.cell?_of_block (w := w5) (HPM.out.2.block F (lt_of_block H5.out.hF) (by simp; omega))).trans H5.out.c3
              have hFl5 := lt_of_block H5.out.hF
              go_wp2_with fail
              refine NEXT.out { mem := sj.mem.set (base + a) (some v), cnt := wrap64 (sj.cnt + 1), vs := sj.vs } vj _ ?_ HPM.out.1 ((HK5.out.mono (by simp)).trans ((KeepV.of_keep HPM.out.2).mono (by simp)))
              have := HIN.out
              simp [doS, doKeep, HVAL.out]
              omega
            · have hp : placeF base sj.mem.length at_ = -1 := by unfold placeF; rw [if_neg hin]
              rw [hp]
              have HIN := Lib.hid hin
              clear hp hin
              go_wp2_with fail
              go_ret
              refine STOP.out { sj with cnt := wrap64 (sj.cnt + 1) } _ ?_ H4'.out.rm (HK4.out.mono (by simp))
              have := HIN.out
              simp [doS, doKeep, HVAL.out]
              omega
      by_cases h3 : op = 3
      · subst h3
        have hfn : 0 ≤ fn ∧ fn < (K : Int) := by
          unfold callsS at hcs
          simp at hcs
          omega
        obtain ⟨k, rfl⟩ := Int.eq_ofNat_of_zero_le hfn.1
        have n4 := cellB' HN.out 4 rfl
        have n10 := cellB' HN.out 10 rfl
        have n11 := cellB' HN.out 11 rfl
        go_wp2_with fail
        refine (step_q (st := { sj with cnt := wrap64 (sj.cnt + 1) }) HREP.out hK HI'.out HIL.out H1.out name at_ k names args aN cN eo en ev aC lC cC aK lK cK aA cA aR arms.length cR (by omega) i2 p1 p3 (by simp only [wS] at hsnl; simp only; omega)).mono ?_
        intro e' w2 hP
        generalize hq : doStep I funs base at_ (k : Int) names args { sj with cnt := wrap64 (sj.cnt + 1) } = q at hP
        have hds : doS I funs base (.mk 3 name at_ k names e args arms) { sj with cnt := wrap64 (sj.cnt + 1) } = q := by rw [← hq]; simp [doS]
        have HDS := Lib.hid hds
        obtain ⟨bb, st'⟩ := q
        have HKP := Lib.hid hP.keep
        clear hds hq n0 n1 n2 n3 n4 n5 n6 n7 n8 n9 n10 n11
        cases bb with
        | true =>
          obtain ⟨rfl, v', hf'⟩ := hP.yes rfl
          have HF' := Lib.hid hf'
          have f3 := hf'.c3
          have hFl2 := lt_of_block hf'.hF
          clear hP hf'
          go_wp2_with fail
          exact NEXT.out st' v' _ HDS.out HF'.out HKP.out
        | false =>
          obtain ⟨rfl, hf'⟩ := hP.no rfl
          have HF' := Lib.hid hf'
          clear hP hf'
          go_wp2_with fail
          go_ret
          exact STOP.out st' _ HDS.out HF'.out HKP.out
      by_cases h4 : op = 4
      · subst h4
        have hfn : 0 ≤ fn ∧ fn < (K : Int) := by
          unfold callsS at hcs
          simp at hcs
          omega
        obtain ⟨k, rfl⟩ := Int.eq_ofNat_of_zero_le hfn.1
        have f0 := H1.out.c0
        have f1 := H1.out.c1
        have hbl := H1.out.blen
        have hml := H1.out.rm.mlen
        go_wp2_with fail
        refine region_qtail 13 (by kernel_rfl) (by kernel_rfl) ?_
        simp only [List.take_succ_cons, List.take_zero, List.drop_succ_cons, List.drop_zero]
        repeat (go_big_quiet_step ((go_at_call 69; exact Calls.quiet_of_same (add_q _ base at_ (by omega) i2))))
        refine wpQuiet_nil ?_
        intro kq
        have hb5 := Below.drewN' (Below.refl w1.heap.size w1) kq
        have H5 := Lib.hid (H1.out.on hb5)
        have HK5 := Lib.hid (KeepV.of_below (lo := lo) (S := [R, M, F]) hb5)
        clear hb5 f0 f1 n0 n1 n2 n3 n5 n6 n7 n8 n9
        generalize w1.drewN kq = w5 at H5 HK5 ⊢
        go_wp2_with fail
        refine (reset_q HREP.out hr w5 base at_ k (by omega) hbl i2 H5.out.rm).mono ?_
        intro e' w6 hP
        have hds : doS I funs base (.mk 4 name at_ k names e args arms) { sj with cnt := wrap64 (sj.cnt + 1) } = doReset funs base at_ (k : Int) { sj with cnt := wrap64 (sj.cnt + 1) } := by simp [doS]
        rw [doReset_rst] at hds
        simp only at hds
        generalize hq : rstF funs base at_ (k : Int) sj.mem = q at hP hds
        cases q with
        | some mem' =>
          obtain ⟨rfl, hr6, hk6⟩ := hP.yes mem' rfl
          have hf6 := H5.out.newMem (hk6.mono (by simp)) hr6 (rstF_len hr (by omega) hbl hq) (rstF_I64 H5.out.memI hq)
          have HF6 := Lib.hid hf6
          have f3 := hf6.c3
          have hFl6 := lt_of_block hf6.hF
          have HK6 := Lib.hid (HK5.out.trans ((KeepV.of_keep hk6).mono (by simp)))
          have HDS := Lib.hid hds
          clear hP hr6 hk6 hf6 hds hq
          go_wp2_with fail
          exact NEXT.out _ vj _ HDS.out HF6.out HK6.out
        | none =>
          obtain ⟨rfl, hb6⟩ := hP.no rfl
          have HR6 := Lib.hid (H5.out.rm.later hb6)
          have HK6 := Lib.hid (HK5.out.trans (.of_below hb6))
          have HDS := Lib.hid hds
          clear hP hb6 hds hq
          go_wp2_with fail
          go_ret
          exact STOP.out _ _ HDS.out HR6.out HK6.out
      by_cases h5 : op = 5
      · subst h5
        have hcas : callsAs arms K = true := by
          unfold callsS at hcs
          rw [Bool.and_eq_true] at hcs
          exact hcs.2
        have n4 := cellB' HN.out 4 rfl
        have n10 := cellB' HN.out 10 rfl
        have n11 := cellB' HN.out 11 rfl
        go_wp2_with fail
        refine (choose_q (st := { sj with cnt := wrap64 (sj.cnt + 1) }) HDO.out H1.out name at_ fn aN names.length cN eo en ev aC lC cC aK lK cK aA args.length cA aR cR arms hcas p4 (by simp only [wS] at hsnl; simp only; omega)).mono ?_
        intro e' w2 hP
        have hds : doS I funs base (.mk 5 name at_ fn names e args arms) { sj with cnt := wrap64 (sj.cnt + 1) } = chooseF I funs base arms name { sj with cnt := wrap64 (sj.cnt + 1) } := by simp [doS, chooseF]; rfl
        generalize hq : chooseF I funs base arms name { sj with cnt := wrap64 (sj.cnt + 1) } = q at hP hds
        have HDS := Lib.hid hds
        obtain ⟨bb, st'⟩ := q
        have HKP := Lib.hid hP.keep
        clear hds hq n0 n1 n2 n3 n4 n5 n6 n7 n8 n9 n10 n11
        cases bb with
        | true =>
          obtain ⟨rfl, v', hf'⟩ := hP.yes rfl
          have HF' := Lib.hid hf'
          have f3 := hf'.c3
          have hFl2 := lt_of_block hf'.hF
          clear hP hf'
          go_wp2_with fail
          exact NEXT.out st' v' _ HDS.out HF'.out HKP.out
        | false =>
          obtain ⟨rfl, hf'⟩ := hP.no rfl
          have HF' := Lib.hid hf'
          clear hP hf'
          go_wp2_with fail
          go_ret
          exact STOP.out st' _ HDS.out HF'.out HKP.out
      · have d1 : (op == 1) = false := by simp [h1]
        have d2 : (op == 2) = false := by simp [h2]
        have d3 : (op == 3) = false := by simp [h3]
        have d4 : (op == 4) = false := by simp [h4]
        have d5 : (op == 5) = false := by simp [h5]
        have hds : doS I funs base (.mk op name at_ fn names e args arms) { sj with cnt := wrap64 (sj.cnt + 1) } = (false, { sj with cnt := wrap64 (sj.cnt + 1) }) := by simp [doS, h1, h2, h3, h4, h5]
        have HDS := Lib.hid hds
        clear hds h1 h2 h3 h4 h5
        go_wp2_with fail
        go_ret
        exact STOP.out { sj with cnt := wrap64 (sj.cnt + 1) } _ HDS.out H1.out.rm (KeepV.refl _ _ _)
    · obtain rfl : j = l.length := by omega
      have E := Lib.hid (HDL.out.symm.trans (hdo.trans (by rw [List.drop_length]; rfl : doL I funs base (l.drop l.length) sj = (true, sj))))
      have HR := Lib.hid hRj
      have HKJ := Lib.hid hkj
      clear hRj hdo hkj
      go_wp2_with fail
      go_ret
      rw [E.out]
      exact ⟨HKJ.out, fun _ => ⟨rfl, vj, HR.out⟩, fun h => by cases h⟩
end Go.Proofs.YtoaajpppbjaomaaGreatDoor
/- The reference's do, and its instant. -/
namespace Go.Proofs.YtoaajpppbjaomaaGreatDoor
open Go.RowKit
set_option maxRecDepth 100000 in
set_option maxHeartbeats 400000 in
theorem doq_nil {W w : World} {lo F R M : Nat} {fv : Value} {base : Nat} {st : St} {vv : Value} (h : FrQ W w lo F R M fv base st.mem st.cnt st.vs false vv) (A : Option Addr) (c : Nat) :
    Calls Tryz.prog 43 #[.pointer (some ⟨F, 0, none⟩), .slice A 0 c] w (StQ W lo F R M fv base (true, st) w) := by
  have HF := Lib.hid h
  clear h
  go_enter Tryz.func43, Tryz.ntmps43
  go_wp2_with fail
  go_loopw [5] (fun i wr => i = .int .i64 0 ∧ wr = w) (fun i _ => 0)
  case atStart => exact ⟨rfl, rfl⟩
  case round =>
    obtain ⟨rfl, rfl⟩ := hrel
    go_wp2_with fail
    go_ret
    exact ⟨KeepV.refl _ _ _, fun _ => ⟨rfl, _, HF.out⟩, fun h => by cases h⟩
theorem doq_any {W : World} {lo F R M : Nat} {fv : Value} {base : Nat} {I : Inst} {funs : List FN} {nf K : Nat} (hrep : RepV (RepF W nf) 6 W fv funs) (hr : RightP funs) (hK : K ≤ funs.length) (HI : InstQC W R M fv I funs K) (hIL : ∀ k base ins mem cnt l, (I k base ins mem cnt).1 = some l → l.length = (funs.getD k default).results.length) :
    ∀ n, DoQC W lo F R M fv base I funs K n := by
  intro n
  induction n with
  | zero =>
    intro l A c w st vv h hc hl hn
    obtain rfl : l = [] := by
      cases l with
      | nil => rfl
      | cons a r =>
        obtain ⟨_, _, _, _, _, _, hget⟩ := hl.get (Below.refl _ _)
        obtain ⟨_, _, _, _, _, _, hR, _⟩ := hget 0 a rfl
        exact hR.elim
    exact doq_nil h A c
  | succ n ih => exact doq_step hrep hr hK HI hIL ih
def ParQ (W : World) (lo F R M : Nat) (fv : Value) (base : Nat) (mem : Mem) (cnt : Int) (names : List ByteArray) (ins : List Int) (w2 : World) (i : Value) (wr : World) : Prop :=
  ∃ (j : Nat) (vv : Value), j ≤ ins.length ∧ i = .int .i64 j ∧ FrQ W wr lo F R M fv base mem cnt (setvs [] (names.take j) (ins.take j)) false vv ∧ KeepV lo [F] w2 wr
def OutQ (W : World) (lo F R M : Nat) (fv : Value) (base : Nat) (st : St) (vv : Value) (names : List ByteArray) (w5 : World) (v i : Value) (wr : World) : Prop :=
  ∃ (j : Nat) (vals : List Int), j ≤ names.length ∧ i = .int .i64 j ∧ vals.length = j ∧ (∀ x, x ∈ vals → I64 x) ∧ resultsV st.vs (names.take j) = some vals ∧ wr.ownsRow w5.heap.size 2 1 v j (vals.map (Value.int .i64)) ∧ FrQ W wr lo F R M fv base st.mem st.cnt st.vs false vv ∧ KeepV lo [R, M, F] w5 wr
theorem Ints.keptV {w w' : World} {v : Value} {l : List Int} (h : Ints w v l) {lo : Nat} {S : List Nat} (hk : KeepV lo S w w') (hlo : w.heap.size ≤ lo) (hS : ∀ x, x ∈ S → w.heap.size ≤ x) : Ints w' v l := by
  obtain ⟨A, c, rfl, h⟩ := h
  refine ⟨A, c, rfl, fun j x hj => ?_⟩
  obtain ⟨b, o, rfl, h1, h2⟩ := h j x hj
  refine ⟨b, o, rfl, Nat.lt_of_lt_of_le h1 hk.size, ?_⟩
  have hb := hk.block b _ (Array.getElem?_eq_getElem h1) (fun hm => by have := hS b hm; omega) (.inl (by omega))
  rw [World.cell?_of_block (w := w) (hb.trans (Array.getElem?_eq_getElem h1).symm), h2]
def NameB (funs : List FN) : Prop := ∀ k, k < funs.length → (funs.getD k default).params.length + wL (funs.getD k default).body ≤ 1048576
/-- the new frame, its base set right -/
theorem frame_set {W w w2 : World} {R M F : Nat} {fv : Value} {mem : Mem} {cnt : Int} {bi : Int} (hm : RMem W w2 R M fv mem false cnt) (hF : w2.heap[F]? = some (.cells #[.pointer (some ⟨R, 0, none⟩), .int .i64 bi, .slice none 0 0, .bool false] 103 (0, 0))) (hI : ∀ v, some v ∈ mem → I64 v) (hW : W.heap.size ≤ w.heap.size) (hFF : w.heap.size + 1 = F) (hR : R < w.heap.size) (hM : M < w.heap.size) (b : Nat) (hb : b ≤ mem.length) (_ho : bi = b ∨ b = mem.length) :
    FrQ W (w2.setCell ⟨F, 1, none⟩ (.int .i64 b)) w.heap.size F R M fv b mem cnt [] false (.slice none 0 0) ∧ Keep [F] w2 (w2.setCell ⟨F, 1, none⟩ (.int .i64 b)) := by
  have hk : Keep [F] w2 (w2.setCell ⟨F, 1, none⟩ (.int .i64 b)) := (Keep.refl _ _).setCell (.inl (by simp)) _
  refine ⟨⟨{ hm with
    below := hk.below hm.below hm.below.size (fun x hx => by simp at hx; omega)
    hR := (hk.block R (lt_of_block hm.hR) (by simp; omega)).trans hm.hR
    hM := (hk.block M (lt_of_block hm.hM) (by simp; omega)).trans hm.hM }, by rw [heap_setCell_eq hF]; rfl, World.ownsRow_nil _ _ _ _, by omega, hW, hR, hM, hb, hI, fun s v h => by simp at h⟩, hk⟩
theorem frame_same {W w w2 : World} {R M F : Nat} {fv : Value} {mem : Mem} {cnt : Int} {b : Nat} (hm : RMem W w2 R M fv mem false cnt) (hF : w2.heap[F]? = some (.cells #[.pointer (some ⟨R, 0, none⟩), .int .i64 b, .slice none 0 0, .bool false] 103 (0, 0))) (hI : ∀ v, some v ∈ mem → I64 v) (hW : W.heap.size ≤ w.heap.size) (hFF : w.heap.size + 1 = F) (hR : R < w.heap.size) (hM : M < w.heap.size) (hb : b ≤ mem.length) :
    FrQ W w2 w.heap.size F R M fv b mem cnt [] false (.slice none 0 0) :=
  ⟨hm, hF, World.ownsRow_nil _ _ _ _, by omega, hW, hR, hM, hb, hI, fun s v h => by simp at h⟩
set_option maxRecDepth 100000 in
set_option maxHeartbeats 8000000 in
theorem instq_step {W : World} {R M : Nat} {fv : Value} {funs : List FN} {nf K n : Nat} (hrep : RepV (RepF W nf) 6 W fv funs) (hr : RightP funs) (hB : NameB funs) (hK : K ≤ funs.length)
    (HI : ∀ k, k < K → InstQC W R M fv (instF funs n) funs k) : InstQC W R M fv (instF funs (n + 1)) funs K := by
  intro k w bi be mem cnt ins vi hk hm he hbi hmI hin hinI hil hfar
  have hkf : k < funs.length := by omega
  generalize hf : funs.getD k default = f
  have hnb := hB k hkf
  have hcall := hr.calls k hkf
  rw [hf] at hnb hcall hil
  obtain ⟨b, o, c, Ap, cp, Ar, cr, Af, cf, Aq, cq, Ab, cb, rfl, hfl, hbW, k0, k1, k2, k3, k4, k5, r1, r2, r3, r4, r5⟩ := fn_cells hrep hm.below hkf hf
  have hbw : b < w.heap.size := Nat.lt_of_lt_of_le hbW hm.below.size
  have hRl := lt_of_block hm.hR
  have hMl := lt_of_block hm.hM
  have q0 : w.cell? ⟨R, 0, none⟩ = some (.slice (some ⟨b, o, none⟩) funs.length c) := cellB' hm.hR 0 rfl
  have q1 : w.cell? ⟨R, 1, none⟩ = some (.slice (some ⟨M, 0, none⟩) mem.length mem.length) := cellB' hm.hR 1 rfl
  have hml := hm.mlen
  have hbel : be ≤ mem.length := by unfold EffB at he; omega
  have HIL := Lib.hid hil
  have HM := Lib.hid hm
  have HE := Lib.hid he
  have HIN := Lib.hid hin
  have HF := Lib.hid hf
  have HI' := Lib.hid HI
  have HREP := Lib.hid hrep
  have HMI := Lib.hid hmI
  have HML := Lib.hid (instF_memlen hr (n + 1) k be ins mem cnt hkf hbel)
  generalize hres : instF funs (n + 1) k be ins mem cnt = res at HML ⊢
  have HRES := Lib.hid hres
  obtain ⟨Ai, ci, hvi, -⟩ := hin
  subst hvi
  unfold I64 at hbi
  clear HI hm hf he hmI hrep hres hil
  go_enter Tryz.func30, Tryz.ntmps30
  go_upto_region 3 with fail
  obtain ⟨w2, hw2⟩ : ∃ w2, w2 = (w.alloc (Obj.cells #[Value.slice Ap f.params.length cp, Value.slice Ar f.results.length cr, Value.int IntKind.i64 f.cells, Value.slice Af f.flags.length cf, Value.slice Aq f.parts.length cq, Value.slice Ab f.body.length cb] 50)).alloc (Obj.cells #[.pointer (some ⟨R, 0, none⟩), .int .i64 bi, .slice none 0 0, .bool false] 103) := ⟨_, rfl⟩
  rw [← hw2]
  obtain ⟨hb2, hX, hFb⟩ := two_new _ _ _ _ hw2
  clear hw2
  have HM2 := Lib.hid (HM.out.later hb2)
  have HIN2 := Lib.hid (HIN.out.kept2 (Keep.of_below (S := []) hb2) (fun x hx => by cases hx))
  have HX := Lib.hid hX
  have HFB := Lib.hid hFb
  have HB2 := Lib.hid hb2
  have p1 := (hb2.cell (p := ⟨R, 1, none⟩) hRl).trans q1
  have f1 := cellB' hFb 1 rfl
  have z1 := frozB hFb 1
  have hRl2 : R < w2.heap.size := Nat.lt_of_lt_of_le hRl hb2.size
  have hFl2 := lt_of_block hFb
  have hs2 := hb2.size
  clear hb2 hX hFb k0 k1 k2 k3 k4 k5 q0 q1 hbw
  generalize hFF : w.heap.size + 1 = F at HFB f1 z1 hFl2 ⊢
  by_cases e1 : bi < 0
  · have d1 : decide (bi < 0) = true := decide_eq_true e1
    have hbe : be = mem.length := by have := HE.out; unfold EffB at this; omega
    go_upto_region 5 with fail
    have h3 := frame_set HM2.out HFB.out HMI.out (by have := HM.out.below.size; omega) hFF hRl hMl mem.length (Nat.le_refl _) (Or.inr rfl)
    rw [← hbe] at h3 ⊢
    obtain ⟨w3, hw3⟩ : ∃ w3, w3 = w2.setCell ⟨F, 1, none⟩ (.int .i64 (be : Nat)) := ⟨_, rfl⟩
    rw [← hw3] at h3 ⊢
    have HQ := Lib.hid h3.1
    have HK3 := Lib.hid ((KeepV.of_below (lo := w.heap.size) (S := [F]) HB2.out).trans (.of_keep h3.2))
    have HX3 := Lib.hid ((h3.2.block _ (lt_of_block HX.out) (by simp; omega)).trans HX.out)
    clear hw3 h3 f1 z1 p1 hRl2 hFl2 HM2 HFB hbe
    have hs3 := HK3.out.size
    have hF3 := lt_of_block HQ.out.hF
    go_wp2_with fail
    go_loopw [12] (fun i wr => ParQ W w.heap.size F R M (.slice (some ⟨b, o, none⟩) funs.length c) be mem cnt f.params ins w3 i wr) (fun i _ => ins.length - (intOf i).toNat)
    case atStart => exact ⟨0, _, Nat.zero_le _, rfl, HQ.out, KeepV.refl _ _ _⟩
    case round =>
      obtain ⟨j, vv, hj, rfl, hfr, hkv⟩ := hrel
      have H4 := Lib.hid hfr
      have HK4 := Lib.hid (HK3.out.trans hkv)
      have HK4' := Lib.hid hkv
      have HX4 := Lib.hid (hkv.cells HX3.out (by simp; omega) (by decide))
      have HIN4 := Lib.hid (HIN.out.keptV HK4.out (Nat.le_refl _) (fun x hx => by simp at hx; omega))
      have x0 := cellB' HX4.out 0 rfl
      have hXl := lt_of_block HX4.out
      have hs4 := hkv.size
      clear hfr hkv
      by_cases hlt : j < ins.length
      · have hjl : j < f.params.length := by have := HIL.out; omega
        obtain ⟨_, _, he, _, _, _, hget⟩ := r1.get H4.out.rm.below
        obtain ⟨bN, oN, cs, hAN, hbN, _, ⟨rfl, hsz⟩, hAt⟩ := hget j _ (List.getElem?_eq_getElem hjl)
        injection he with he1 he2 he3
        subst he1
        subst hAN
        clear he2 he3
        have hcn : wr.cell? ⟨bN, oN + j, none⟩ = some (.string f.params[j]) := by
          have := hAt 0 _ rfl
          simpa using this
        have hbNl : bN < wr.heap.size := Nat.lt_of_lt_of_le hbN H4.out.rm.below.size
        obtain ⟨bt, ot, ct', het, hbt, hct⟩ := int_cell HIN4.out hlt
        injection het with e4 e5 e6
        subst e4
        have hoI := hinI ins[j] (List.getElem_mem hlt)
        have HT1 := Lib.hid (take_snoc' (List.getElem?_eq_getElem hlt))
        have HT2 := Lib.hid (take_snoc' (List.getElem?_eq_getElem hjl))
        generalize ins[j] = ov at hct hoI HT1
        generalize f.params[j] = nv at hcn HT2
        clear hget hAt hsz e5 e6
        go_wp2_with fail
        refine region_qtail 11 (by kernel_rfl) (by kernel_rfl) ?_
        simp only [List.take_succ_cons, List.take_zero, List.drop_succ_cons, List.drop_zero]
        repeat (go_big_quiet_step (fail))
        refine wpQuiet_nil ?_
        intro kq8
        have hb9 := Below.drewN' (Below.refl wr.heap.size wr) kq8
        have H9 := Lib.hid (H4.out.on hb9)
        have HK9 := Lib.hid (HK4'.out.trans (KeepV.of_below hb9))
        clear hb9 hcn hct x0 hXl hbNl hbt
        generalize wr.drewN kq8 = w9 at H9 HK9 ⊢
        go_wp2_with fail
        refine (set_q H9.out nv (some ov) (fun v hv => by injection hv with hv; rw [← hv]; exact hoI) (by have := setvs_len (f.params.take j) (ins.take j) []; rw [List.length_take, List.length_nil] at this; omega)).mono ?_
        rintro e w10 ⟨rfl, ⟨vv2, hf10⟩, hk10⟩
        have H10 := Lib.hid hf10
        have HK10 := Lib.hid (HK9.out.trans hk10)
        clear hf10 hk10
        go_wp2_with fail
        refine ⟨⟨j + 1, vv2, hlt, by simp, ?_, HK10.out⟩, by simp [intOf]; omega⟩
        rw [HT1.out, HT2.out, setvsQ_snoc _ _ _ _ _ (by have := HIL.out; simp; omega)]
        exact H10.out
      · obtain rfl : j = ins.length := by omega
        have H5 := Lib.hid (show FrQ W wr w.heap.size F R M _ be mem cnt (setvs [] f.params ins) false vv by have h := H4.out; rw [List.take_length, HIL.out, List.take_length] at h; exact h)
        have x5 := cellB' HX4.out 5 rfl
        go_wp2_with fail
        refine (doq_any HREP.out hr (by omega) (HI'.out k hk) (fun k base ins mem cnt l => instF_len funs n k base ins mem cnt l) nf f.body Ab cb wr { mem := mem, cnt := cnt, vs := setvs [] f.params ins } vv H5.out hcall r5 (by have := setvs_len f.params ins []; simp only; rw [List.length_nil] at this; omega)).mono ?_
        intro e w5 hP
        generalize hq : doL (instF funs n) funs be f.body { mem := mem, cnt := cnt, vs := setvs [] f.params ins } = q at hP
        obtain ⟨bb, st'⟩ := q
        have HKP := Lib.hid ((HK4.out.mono (by simp)).trans hP.keep : KeepV w.heap.size [R, M, F] w w5)
        have hs5 := hP.keep.size
        have HX5 := Lib.hid (hP.keep.cells HX4.out (by simp; omega) (by decide))
        cases bb with
        | false =>
          obtain ⟨rfl, hr5⟩ := hP.no rfl
          have E := Lib.hid (HRES.out.symm.trans (instF_no HF.out hq))
          have HR5 := Lib.hid hr5
          clear hP hr5 hq x0 x5 hXl
          go_wp2_with fail
          go_ret2
          have hm := HML.out
          rw [E.out] at hm ⊢
          exact ⟨HKP.out.keep rfl (fun x hx => by simp at hx ⊢; omega), hm, fun out h => (by cases h), fun _ => ⟨rfl, HR5.out⟩⟩
        | true =>
          obtain ⟨rfl, v5, hf5⟩ := hP.yes rfl
          have E := Lib.hid (HRES.out.symm.trans (instF_yes HF.out hq))
          have H6 := Lib.hid hf5
          clear hP hf5 hq x0 x5 hXl
          go_wp2_with fail
          go_loopw [13, 14] (fun v i wr => OutQ W w.heap.size F R M (.slice (some ⟨b, o, none⟩) funs.length c) be st' v5 f.results w5 v i wr) (fun _ i _ => f.results.length - (intOf i).toNat)
          case atStart => exact ⟨0, [], Nat.zero_le _, rfl, rfl, fun x h => by (simp at h), rfl, World.ownsRow_nil _ _ _ _, H6.out, KeepV.refl _ _ _⟩
          case round =>
            obtain ⟨j, vals, hj, rfl, hvl, hvI, hrs, hown, hfr, hkv⟩ := hrel
            have H7 := Lib.hid hfr
            have HK7 := Lib.hid hkv
            have HOWN := Lib.hid hown
            have HVI := Lib.hid hvI
            have HRS := Lib.hid hrs
            have HVL := Lib.hid hvl
            have HX7 := Lib.hid (hkv.cells HX5.out (by simp; omega) (by decide))
            have x1 := cellB' HX7.out 1 rfl
            have hXl := lt_of_block HX7.out
            have hs7 := hkv.size
            have hFl7 := lt_of_block hfr.hF
            obtain ⟨A6, c6, hv6⟩ := own_sl hown
            subst hv6
            clear hfr hkv hown hvI hrs hvl
            by_cases hlt : j < f.results.length
            · obtain ⟨_, _, he, _, _, _, hget⟩ := r2.get H7.out.rm.below
              obtain ⟨bN, oN, cs, hAN, hbN, _, ⟨rfl, hsz⟩, hAt⟩ := hget j _ (List.getElem?_eq_getElem hlt)
              injection he with he1 he2 he3
              subst he1
              subst hAN
              clear he2 he3
              have hcn : wr.cell? ⟨bN, oN + j, none⟩ = some (.string f.results[j]) := by
                have := hAt 0 _ rfl
                simpa using this
              have hbNl : bN < wr.heap.size := Nat.lt_of_lt_of_le hbN H7.out.rm.below.size
              have HT := Lib.hid (take_snoc' (List.getElem?_eq_getElem hlt))
              have HGE := Lib.hid (List.getElem?_eq_getElem hlt)
              generalize f.results[j] = nv at hcn HT HGE
              clear hget hAt hsz
              go_wp2_with fail
              refine (get_q H7.out nv).mono ?_
              rintro e w8 ⟨rfl, hb8⟩
              have H8 := Lib.hid (H7.out.on hb8)
              have HK8 := Lib.hid (HK7.out.trans (KeepV.of_below hb8))
              have HOWN8 := Lib.hid (own_keep HOWN.out (Keep.of_below (S := []) hb8) (fun x hx => by cases hx))
              have hs8 := hb8.size
              clear hb8 hcn x1 hXl hbNl
              generalize hgv : getv st'.vs nv = gv
              have HGV := Lib.hid hgv
              clear hgv
              unfold cellQ
              go_upto_region 16 with fail
              obtain ⟨w9, hw9⟩ : ∃ w9, w9 = w8.alloc (Obj.cells #[.bool gv.isSome, .int .i64 (gv.getD 0)] 75) := ⟨_, rfl⟩
              rw [← hw9]
              have hb9 : Below w8.heap.size w8 w9 := by rw [hw9]; exact (Below.refl _ _).alloc (Nat.le_refl _) _
              have hG : w9.heap[w8.heap.size]? = some (Obj.cells #[.bool gv.isSome, .int .i64 (gv.getD 0)] 75 (0, 0)) := by rw [hw9]; exact heap_alloc_at _ _
              have H9 := Lib.hid (H8.out.on hb9)
              have HK9 := Lib.hid (HK8.out.trans (KeepV.of_below hb9))
              have HOWN9 := Lib.hid (own_keep HOWN8.out (Keep.of_below (S := []) hb9) (fun x hx => by cases hx))
              have g0 := cellB' hG 0 rfl
              have g1 := cellB' hG 1 rfl
              have hGl := lt_of_block hG
              have hs9 := hb9.size
              clear hw9 hb9 hG
              cases gv with
              | none =>
                simp only [Option.isSome_none] at g0
                have ER := Lib.hid (E.out.trans (by rw [resultsV_bad HGE.out HGV.out]))
                go_wp2_with fail
                go_ret2
                have hm := HML.out
                rw [ER.out] at hm ⊢
                exact ⟨(HKP.out.trans HK9.out).keep rfl (fun x hx => by simp at hx ⊢; omega), hm, fun out h => (by cases h), fun _ => ⟨rfl, H9.out.rm⟩⟩
              | some v =>
                simp only [Option.isSome_some, Option.getD_some] at g0 g1
                have HVV := Lib.hid (getv_I64 H9.out.vsI _ _ HGV.out)
                have hnw : (w9.alloc (Obj.cells #[Value.int IntKind.i64 v] 2)).cell? ((⟨w9.heap.size, 0, none⟩ : Addr).add 0) = some (Value.int IntKind.i64 v) := by
                  have := cellB' (heap_alloc_at w9 (Obj.cells #[Value.int IntKind.i64 v] 2)) 0 rfl
                  exact this
                have hlr := r2.1
                go_wp2_with (at_builtin; go_loud (refine append_one rfl (.tmp 87) (.tmp 90) rfl Tryz.underlying35 (by decide) Tryz.info64 rfl w5.heap.size _ j _ rfl (HOWN9.out.alloc _) ⟨w9.heap.size, 0, none⟩ (Value.int .i64 v) rfl rfl hnw (by omega) (by simp; omega) ?_))
                intro v6' w10 hown10 hgr10 hfr10
                have H10 := Lib.hid (H9.out.grown2 (HOWN9.out.alloc _) (by decide) hgr10 (by omega))
                have HK10 := Lib.hid (HK9.out.grown (HOWN9.out.alloc _) hgr10 (Nat.le_refl _))
                have HOWN10 := Lib.hid hown10
                clear hgr10 hfr10 hown10 hnw
                go_wp2_with fail
                refine ⟨⟨j + 1, vals ++ [v], hlt, by simp, by simp [HVL.out], ?_, ?_, by simpa using HOWN10.out, H10.out, HK10.out⟩, by simp [intOf]; omega⟩
                · intro x hx
                  rcases List.mem_append.1 hx with hx | hx
                  · exact HVI.out x hx
                  · simp at hx; subst hx; exact HVV.out
                · rw [HT.out]; exact resultsV_snoc HRS.out HGV.out
            · obtain rfl : j = f.results.length := by omega
              have ER := Lib.hid (E.out.trans (by rw [show resultsV st'.vs f.results = some vals by have h := HRS.out; rw [List.take_length] at h; exact h]))
              go_wp2_with fail
              go_ret2
              have hm := HML.out
              rw [ER.out] at hm ⊢
              refine ⟨(HKP.out.trans HK7.out).keep rfl (fun x hx => by simp at hx ⊢; omega), hm, fun out h => ?_, fun h => (by cases h)⟩
              simp only [Option.some.injEq] at h
              subst h
              refine ⟨⟨_, rfl, ?_⟩, H7.out.rm, H7.out.memI, HVI.out⟩
              have h2 := own_weaken HOWN.out (B' := w.heap.size) (by omega)
              rw [HVL.out]
              exact h2
  have d1 : decide (bi < 0) = false := decide_eq_false e1
  by_cases e2 : (mem.length : Int) < bi
  · have d2 : decide ((mem.length : Int) < bi) = true := decide_eq_true e2
    have hbe : be = mem.length := by have := HE.out; unfold EffB at this; omega
    go_upto_region 5 with fail
    have h3 := frame_set HM2.out HFB.out HMI.out (by have := HM.out.below.size; omega) hFF hRl hMl mem.length (Nat.le_refl _) (Or.inr rfl)
    rw [← hbe] at h3 ⊢
    obtain ⟨w3, hw3⟩ : ∃ w3, w3 = w2.setCell ⟨F, 1, none⟩ (.int .i64 (be : Nat)) := ⟨_, rfl⟩
    rw [← hw3] at h3 ⊢
    have HQ := Lib.hid h3.1
    have HK3 := Lib.hid ((KeepV.of_below (lo := w.heap.size) (S := [F]) HB2.out).trans (.of_keep h3.2))
    have HX3 := Lib.hid ((h3.2.block _ (lt_of_block HX.out) (by simp; omega)).trans HX.out)
    clear hw3 h3 f1 z1 p1 hRl2 hFl2 HM2 HFB hbe
    have hs3 := HK3.out.size
    have hF3 := lt_of_block HQ.out.hF
    go_wp2_with fail
    go_loopw [12] (fun i wr => ParQ W w.heap.size F R M (.slice (some ⟨b, o, none⟩) funs.length c) be mem cnt f.params ins w3 i wr) (fun i _ => ins.length - (intOf i).toNat)
    case atStart => exact ⟨0, _, Nat.zero_le _, rfl, HQ.out, KeepV.refl _ _ _⟩
    case round =>
      obtain ⟨j, vv, hj, rfl, hfr, hkv⟩ := hrel
      have H4 := Lib.hid hfr
      have HK4 := Lib.hid (HK3.out.trans hkv)
      have HK4' := Lib.hid hkv
      have HX4 := Lib.hid (hkv.cells HX3.out (by simp; omega) (by decide))
      have HIN4 := Lib.hid (HIN.out.keptV HK4.out (Nat.le_refl _) (fun x hx => by simp at hx; omega))
      have x0 := cellB' HX4.out 0 rfl
      have hXl := lt_of_block HX4.out
      have hs4 := hkv.size
      clear hfr hkv
      by_cases hlt : j < ins.length
      · have hjl : j < f.params.length := by have := HIL.out; omega
        obtain ⟨_, _, he, _, _, _, hget⟩ := r1.get H4.out.rm.below
        obtain ⟨bN, oN, cs, hAN, hbN, _, ⟨rfl, hsz⟩, hAt⟩ := hget j _ (List.getElem?_eq_getElem hjl)
        injection he with he1 he2 he3
        subst he1
        subst hAN
        clear he2 he3
        have hcn : wr.cell? ⟨bN, oN + j, none⟩ = some (.string f.params[j]) := by
          have := hAt 0 _ rfl
          simpa using this
        have hbNl : bN < wr.heap.size := Nat.lt_of_lt_of_le hbN H4.out.rm.below.size
        obtain ⟨bt, ot, ct', het, hbt, hct⟩ := int_cell HIN4.out hlt
        injection het with e4 e5 e6
        subst e4
        have hoI := hinI ins[j] (List.getElem_mem hlt)
        have HT1 := Lib.hid (take_snoc' (List.getElem?_eq_getElem hlt))
        have HT2 := Lib.hid (take_snoc' (List.getElem?_eq_getElem hjl))
        generalize ins[j] = ov at hct hoI HT1
        generalize f.params[j] = nv at hcn HT2
        clear hget hAt hsz e5 e6
        go_wp2_with fail
        refine region_qtail 11 (by kernel_rfl) (by kernel_rfl) ?_
        simp only [List.take_succ_cons, List.take_zero, List.drop_succ_cons, List.drop_zero]
        repeat (go_big_quiet_step (fail))
        refine wpQuiet_nil ?_
        intro kq8
        have hb9 := Below.drewN' (Below.refl wr.heap.size wr) kq8
        have H9 := Lib.hid (H4.out.on hb9)
        have HK9 := Lib.hid (HK4'.out.trans (KeepV.of_below hb9))
        clear hb9 hcn hct x0 hXl hbNl hbt
        generalize wr.drewN kq8 = w9 at H9 HK9 ⊢
        go_wp2_with fail
        refine (set_q H9.out nv (some ov) (fun v hv => by injection hv with hv; rw [← hv]; exact hoI) (by have := setvs_len (f.params.take j) (ins.take j) []; rw [List.length_take, List.length_nil] at this; omega)).mono ?_
        rintro e w10 ⟨rfl, ⟨vv2, hf10⟩, hk10⟩
        have H10 := Lib.hid hf10
        have HK10 := Lib.hid (HK9.out.trans hk10)
        clear hf10 hk10
        go_wp2_with fail
        refine ⟨⟨j + 1, vv2, hlt, by simp, ?_, HK10.out⟩, by simp [intOf]; omega⟩
        rw [HT1.out, HT2.out, setvsQ_snoc _ _ _ _ _ (by have := HIL.out; simp; omega)]
        exact H10.out
      · obtain rfl : j = ins.length := by omega
        have H5 := Lib.hid (show FrQ W wr w.heap.size F R M _ be mem cnt (setvs [] f.params ins) false vv by have h := H4.out; rw [List.take_length, HIL.out, List.take_length] at h; exact h)
        have x5 := cellB' HX4.out 5 rfl
        go_wp2_with fail
        refine (doq_any HREP.out hr (by omega) (HI'.out k hk) (fun k base ins mem cnt l => instF_len funs n k base ins mem cnt l) nf f.body Ab cb wr { mem := mem, cnt := cnt, vs := setvs [] f.params ins } vv H5.out hcall r5 (by have := setvs_len f.params ins []; simp only; rw [List.length_nil] at this; omega)).mono ?_
        intro e w5 hP
        generalize hq : doL (instF funs n) funs be f.body { mem := mem, cnt := cnt, vs := setvs [] f.params ins } = q at hP
        obtain ⟨bb, st'⟩ := q
        have HKP := Lib.hid ((HK4.out.mono (by simp)).trans hP.keep : KeepV w.heap.size [R, M, F] w w5)
        have hs5 := hP.keep.size
        have HX5 := Lib.hid (hP.keep.cells HX4.out (by simp; omega) (by decide))
        cases bb with
        | false =>
          obtain ⟨rfl, hr5⟩ := hP.no rfl
          have E := Lib.hid (HRES.out.symm.trans (instF_no HF.out hq))
          have HR5 := Lib.hid hr5
          clear hP hr5 hq x0 x5 hXl
          go_wp2_with fail
          go_ret2
          have hm := HML.out
          rw [E.out] at hm ⊢
          exact ⟨HKP.out.keep rfl (fun x hx => by simp at hx ⊢; omega), hm, fun out h => (by cases h), fun _ => ⟨rfl, HR5.out⟩⟩
        | true =>
          obtain ⟨rfl, v5, hf5⟩ := hP.yes rfl
          have E := Lib.hid (HRES.out.symm.trans (instF_yes HF.out hq))
          have H6 := Lib.hid hf5
          clear hP hf5 hq x0 x5 hXl
          go_wp2_with fail
          go_loopw [13, 14] (fun v i wr => OutQ W w.heap.size F R M (.slice (some ⟨b, o, none⟩) funs.length c) be st' v5 f.results w5 v i wr) (fun _ i _ => f.results.length - (intOf i).toNat)
          case atStart => exact ⟨0, [], Nat.zero_le _, rfl, rfl, fun x h => by (simp at h), rfl, World.ownsRow_nil _ _ _ _, H6.out, KeepV.refl _ _ _⟩
          case round =>
            obtain ⟨j, vals, hj, rfl, hvl, hvI, hrs, hown, hfr, hkv⟩ := hrel
            have H7 := Lib.hid hfr
            have HK7 := Lib.hid hkv
            have HOWN := Lib.hid hown
            have HVI := Lib.hid hvI
            have HRS := Lib.hid hrs
            have HVL := Lib.hid hvl
            have HX7 := Lib.hid (hkv.cells HX5.out (by simp; omega) (by decide))
            have x1 := cellB' HX7.out 1 rfl
            have hXl := lt_of_block HX7.out
            have hs7 := hkv.size
            have hFl7 := lt_of_block hfr.hF
            obtain ⟨A6, c6, hv6⟩ := own_sl hown
            subst hv6
            clear hfr hkv hown hvI hrs hvl
            by_cases hlt : j < f.results.length
            · obtain ⟨_, _, he, _, _, _, hget⟩ := r2.get H7.out.rm.below
              obtain ⟨bN, oN, cs, hAN, hbN, _, ⟨rfl, hsz⟩, hAt⟩ := hget j _ (List.getElem?_eq_getElem hlt)
              injection he with he1 he2 he3
              subst he1
              subst hAN
              clear he2 he3
              have hcn : wr.cell? ⟨bN, oN + j, none⟩ = some (.string f.results[j]) := by
                have := hAt 0 _ rfl
                simpa using this
              have hbNl : bN < wr.heap.size := Nat.lt_of_lt_of_le hbN H7.out.rm.below.size
              have HT := Lib.hid (take_snoc' (List.getElem?_eq_getElem hlt))
              have HGE := Lib.hid (List.getElem?_eq_getElem hlt)
              generalize f.results[j] = nv at hcn HT HGE
              clear hget hAt hsz
              go_wp2_with fail
              refine (get_q H7.out nv).mono ?_
              rintro e w8 ⟨rfl, hb8⟩
              have H8 := Lib.hid (H7.out.on hb8)
              have HK8 := Lib.hid (HK7.out.trans (KeepV.of_below hb8))
              have HOWN8 := Lib.hid (own_keep HOWN.out (Keep.of_below (S := []) hb8) (fun x hx => by cases hx))
              have hs8 := hb8.size
              clear hb8 hcn x1 hXl hbNl
              generalize hgv : getv st'.vs nv = gv
              have HGV := Lib.hid hgv
              clear hgv
              unfold cellQ
              go_upto_region 16 with fail
              obtain ⟨w9, hw9⟩ : ∃ w9, w9 = w8.alloc (Obj.cells #[.bool gv.isSome, .int .i64 (gv.getD 0)] 75) := ⟨_, rfl⟩
              rw [← hw9]
              have hb9 : Below w8.heap.size w8 w9 := by rw [hw9]; exact (Below.refl _ _).alloc (Nat.le_refl _) _
              have hG : w9.heap[w8.heap.size]? = some (Obj.cells #[.bool gv.isSome, .int .i64 (gv.getD 0)] 75 (0, 0)) := by rw [hw9]; exact heap_alloc_at _ _
              have H9 := Lib.hid (H8.out.on hb9)
              have HK9 := Lib.hid (HK8.out.trans (KeepV.of_below hb9))
              have HOWN9 := Lib.hid (own_keep HOWN8.out (Keep.of_below (S := []) hb9) (fun x hx => by cases hx))
              have g0 := cellB' hG 0 rfl
              have g1 := cellB' hG 1 rfl
              have hGl := lt_of_block hG
              have hs9 := hb9.size
              clear hw9 hb9 hG
              cases gv with
              | none =>
                simp only [Option.isSome_none] at g0
                have ER := Lib.hid (E.out.trans (by rw [resultsV_bad HGE.out HGV.out]))
                go_wp2_with fail
                go_ret2
                have hm := HML.out
                rw [ER.out] at hm ⊢
                exact ⟨(HKP.out.trans HK9.out).keep rfl (fun x hx => by simp at hx ⊢; omega), hm, fun out h => (by cases h), fun _ => ⟨rfl, H9.out.rm⟩⟩
              | some v =>
                simp only [Option.isSome_some, Option.getD_some] at g0 g1
                have HVV := Lib.hid (getv_I64 H9.out.vsI _ _ HGV.out)
                have hnw : (w9.alloc (Obj.cells #[Value.int IntKind.i64 v] 2)).cell? ((⟨w9.heap.size, 0, none⟩ : Addr).add 0) = some (Value.int IntKind.i64 v) := by
                  have := cellB' (heap_alloc_at w9 (Obj.cells #[Value.int IntKind.i64 v] 2)) 0 rfl
                  exact this
                have hlr := r2.1
                go_wp2_with (at_builtin; go_loud (refine append_one rfl (.tmp 87) (.tmp 90) rfl Tryz.underlying35 (by decide) Tryz.info64 rfl w5.heap.size _ j _ rfl (HOWN9.out.alloc _) ⟨w9.heap.size, 0, none⟩ (Value.int .i64 v) rfl rfl hnw (by omega) (by simp; omega) ?_))
                intro v6' w10 hown10 hgr10 hfr10
                have H10 := Lib.hid (H9.out.grown2 (HOWN9.out.alloc _) (by decide) hgr10 (by omega))
                have HK10 := Lib.hid (HK9.out.grown (HOWN9.out.alloc _) hgr10 (Nat.le_refl _))
                have HOWN10 := Lib.hid hown10
                clear hgr10 hfr10 hown10 hnw
                go_wp2_with fail
                refine ⟨⟨j + 1, vals ++ [v], hlt, by simp, by simp [HVL.out], ?_, ?_, by simpa using HOWN10.out, H10.out, HK10.out⟩, by simp [intOf]; omega⟩
                · intro x hx
                  rcases List.mem_append.1 hx with hx | hx
                  · exact HVI.out x hx
                  · simp at hx; subst hx; exact HVV.out
                · rw [HT.out]; exact resultsV_snoc HRS.out HGV.out
            · obtain rfl : j = f.results.length := by omega
              have ER := Lib.hid (E.out.trans (by rw [show resultsV st'.vs f.results = some vals by have h := HRS.out; rw [List.take_length] at h; exact h]))
              go_wp2_with fail
              go_ret2
              have hm := HML.out
              rw [ER.out] at hm ⊢
              refine ⟨(HKP.out.trans HK7.out).keep rfl (fun x hx => by simp at hx ⊢; omega), hm, fun out h => ?_, fun h => (by cases h)⟩
              simp only [Option.some.injEq] at h
              subst h
              refine ⟨⟨_, rfl, ?_⟩, H7.out.rm, H7.out.memI, HVI.out⟩
              have h2 := own_weaken HOWN.out (B' := w.heap.size) (by omega)
              rw [HVL.out]
              exact h2
  · have d2 : decide ((mem.length : Int) < bi) = false := decide_eq_false e2
    have hbe : bi = be := by have := HE.out; unfold EffB at this; omega
    subst hbe
    go_upto_region 5 with fail
    obtain ⟨w3, hw3⟩ : ∃ w3, w3 = w2 := ⟨_, rfl⟩
    rw [← hw3]
    have HQ := Lib.hid (show FrQ W w3 w.heap.size F R M _ be mem cnt [] false (.slice none 0 0) by rw [hw3]; exact frame_same HM2.out HFB.out HMI.out (by have := HM.out.below.size; omega) hFF hRl hMl hbel)
    have HK3 := Lib.hid (show KeepV w.heap.size [F] w w3 by rw [hw3]; exact KeepV.of_below HB2.out)
    have HX3 := Lib.hid (hw3 ▸ HX.out : w3.heap[w.heap.size]? = _)
    clear hw3 f1 z1 p1 hRl2 hFl2 HM2 HFB
    have hs3 := HK3.out.size
    have hF3 := lt_of_block HQ.out.hF
    go_wp2_with fail
    go_loopw [12] (fun i wr => ParQ W w.heap.size F R M (.slice (some ⟨b, o, none⟩) funs.length c) be mem cnt f.params ins w3 i wr) (fun i _ => ins.length - (intOf i).toNat)
    case atStart => exact ⟨0, _, Nat.zero_le _, rfl, HQ.out, KeepV.refl _ _ _⟩
    case round =>
      obtain ⟨j, vv, hj, rfl, hfr, hkv⟩ := hrel
      have H4 := Lib.hid hfr
      have HK4 := Lib.hid (HK3.out.trans hkv)
      have HK4' := Lib.hid hkv
      have HX4 := Lib.hid (hkv.cells HX3.out (by simp; omega) (by decide))
      have HIN4 := Lib.hid (HIN.out.keptV HK4.out (Nat.le_refl _) (fun x hx => by simp at hx; omega))
      have x0 := cellB' HX4.out 0 rfl
      have hXl := lt_of_block HX4.out
      have hs4 := hkv.size
      clear hfr hkv
      by_cases hlt : j < ins.length
      · have hjl : j < f.params.length := by have := HIL.out; omega
        obtain ⟨_, _, he, _, _, _, hget⟩ := r1.get H4.out.rm.below
        obtain ⟨bN, oN, cs, hAN, hbN, _, ⟨rfl, hsz⟩, hAt⟩ := hget j _ (List.getElem?_eq_getElem hjl)
        injection he with he1 he2 he3
        subst he1
        subst hAN
        clear he2 he3
        have hcn : wr.cell? ⟨bN, oN + j, none⟩ = some (.string f.params[j]) := by
          have := hAt 0 _ rfl
          simpa using this
        have hbNl : bN < wr.heap.size := Nat.lt_of_lt_of_le hbN H4.out.rm.below.size
        obtain ⟨bt, ot, ct', het, hbt, hct⟩ := int_cell HIN4.out hlt
        injection het with e4 e5 e6
        subst e4
        have hoI := hinI ins[j] (List.getElem_mem hlt)
        have HT1 := Lib.hid (take_snoc' (List.getElem?_eq_getElem hlt))
        have HT2 := Lib.hid (take_snoc' (List.getElem?_eq_getElem hjl))
        generalize ins[j] = ov at hct hoI HT1
        generalize f.params[j] = nv at hcn HT2
        clear hget hAt hsz e5 e6
        go_wp2_with fail
        refine region_qtail 11 (by kernel_rfl) (by kernel_rfl) ?_
        simp only [List.take_succ_cons, List.take_zero, List.drop_succ_cons, List.drop_zero]
        repeat (go_big_quiet_step (fail))
        refine wpQuiet_nil ?_
        intro kq8
        have hb9 := Below.drewN' (Below.refl wr.heap.size wr) kq8
        have H9 := Lib.hid (H4.out.on hb9)
        have HK9 := Lib.hid (HK4'.out.trans (KeepV.of_below hb9))
        clear hb9 hcn hct x0 hXl hbNl hbt
        generalize wr.drewN kq8 = w9 at H9 HK9 ⊢
        go_wp2_with fail
        refine (set_q H9.out nv (some ov) (fun v hv => by injection hv with hv; rw [← hv]; exact hoI) (by have := setvs_len (f.params.take j) (ins.take j) []; rw [List.length_take, List.length_nil] at this; omega)).mono ?_
        rintro e w10 ⟨rfl, ⟨vv2, hf10⟩, hk10⟩
        have H10 := Lib.hid hf10
        have HK10 := Lib.hid (HK9.out.trans hk10)
        clear hf10 hk10
        go_wp2_with fail
        refine ⟨⟨j + 1, vv2, hlt, by simp, ?_, HK10.out⟩, by simp [intOf]; omega⟩
        rw [HT1.out, HT2.out, setvsQ_snoc _ _ _ _ _ (by have := HIL.out; simp; omega)]
        exact H10.out
      · obtain rfl : j = ins.length := by omega
        have H5 := Lib.hid (show FrQ W wr w.heap.size F R M _ be mem cnt (setvs [] f.params ins) false vv by have h := H4.out; rw [List.take_length, HIL.out, List.take_length] at h; exact h)
        have x5 := cellB' HX4.out 5 rfl
        go_wp2_with fail
        refine (doq_any HREP.out hr (by omega) (HI'.out k hk) (fun k base ins mem cnt l => instF_len funs n k base ins mem cnt l) nf f.body Ab cb wr { mem := mem, cnt := cnt, vs := setvs [] f.params ins } vv H5.out hcall r5 (by have := setvs_len f.params ins []; simp only; rw [List.length_nil] at this; omega)).mono ?_
        intro e w5 hP
        generalize hq : doL (instF funs n) funs be f.body { mem := mem, cnt := cnt, vs := setvs [] f.params ins } = q at hP
        obtain ⟨bb, st'⟩ := q
        have HKP := Lib.hid ((HK4.out.mono (by simp)).trans hP.keep : KeepV w.heap.size [R, M, F] w w5)
        have hs5 := hP.keep.size
        have HX5 := Lib.hid (hP.keep.cells HX4.out (by simp; omega) (by decide))
        cases bb with
        | false =>
          obtain ⟨rfl, hr5⟩ := hP.no rfl
          have E := Lib.hid (HRES.out.symm.trans (instF_no HF.out hq))
          have HR5 := Lib.hid hr5
          clear hP hr5 hq x0 x5 hXl
          go_wp2_with fail
          go_ret2
          have hm := HML.out
          rw [E.out] at hm ⊢
          exact ⟨HKP.out.keep rfl (fun x hx => by simp at hx ⊢; omega), hm, fun out h => (by cases h), fun _ => ⟨rfl, HR5.out⟩⟩
        | true =>
          obtain ⟨rfl, v5, hf5⟩ := hP.yes rfl
          have E := Lib.hid (HRES.out.symm.trans (instF_yes HF.out hq))
          have H6 := Lib.hid hf5
          clear hP hf5 hq x0 x5 hXl
          go_wp2_with fail
          go_loopw [13, 14] (fun v i wr => OutQ W w.heap.size F R M (.slice (some ⟨b, o, none⟩) funs.length c) be st' v5 f.results w5 v i wr) (fun _ i _ => f.results.length - (intOf i).toNat)
          case atStart => exact ⟨0, [], Nat.zero_le _, rfl, rfl, fun x h => by (simp at h), rfl, World.ownsRow_nil _ _ _ _, H6.out, KeepV.refl _ _ _⟩
          case round =>
            obtain ⟨j, vals, hj, rfl, hvl, hvI, hrs, hown, hfr, hkv⟩ := hrel
            have H7 := Lib.hid hfr
            have HK7 := Lib.hid hkv
            have HOWN := Lib.hid hown
            have HVI := Lib.hid hvI
            have HRS := Lib.hid hrs
            have HVL := Lib.hid hvl
            have HX7 := Lib.hid (hkv.cells HX5.out (by simp; omega) (by decide))
            have x1 := cellB' HX7.out 1 rfl
            have hXl := lt_of_block HX7.out
            have hs7 := hkv.size
            have hFl7 := lt_of_block hfr.hF
            obtain ⟨A6, c6, hv6⟩ := own_sl hown
            subst hv6
            clear hfr hkv hown hvI hrs hvl
            by_cases hlt : j < f.results.length
            · obtain ⟨_, _, he, _, _, _, hget⟩ := r2.get H7.out.rm.below
              obtain ⟨bN, oN, cs, hAN, hbN, _, ⟨rfl, hsz⟩, hAt⟩ := hget j _ (List.getElem?_eq_getElem hlt)
              injection he with he1 he2 he3
              subst he1
              subst hAN
              clear he2 he3
              have hcn : wr.cell? ⟨bN, oN + j, none⟩ = some (.string f.results[j]) := by
                have := hAt 0 _ rfl
                simpa using this
              have hbNl : bN < wr.heap.size := Nat.lt_of_lt_of_le hbN H7.out.rm.below.size
              have HT := Lib.hid (take_snoc' (List.getElem?_eq_getElem hlt))
              have HGE := Lib.hid (List.getElem?_eq_getElem hlt)
              generalize f.results[j] = nv at hcn HT HGE
              clear hget hAt hsz
              go_wp2_with fail
              refine (get_q H7.out nv).mono ?_
              rintro e w8 ⟨rfl, hb8⟩
              have H8 := Lib.hid (H7.out.on hb8)
              have HK8 := Lib.hid (HK7.out.trans (KeepV.of_below hb8))
              have HOWN8 := Lib.hid (own_keep HOWN.out (Keep.of_below (S := []) hb8) (fun x hx => by cases hx))
              have hs8 := hb8.size
              clear hb8 hcn x1 hXl hbNl
              generalize hgv : getv st'.vs nv = gv
              have HGV := Lib.hid hgv
              clear hgv
              unfold cellQ
              go_upto_region 16 with fail
              obtain ⟨w9, hw9⟩ : ∃ w9, w9 = w8.alloc (Obj.cells #[.bool gv.isSome, .int .i64 (gv.getD 0)] 75) := ⟨_, rfl⟩
              rw [← hw9]
              have hb9 : Below w8.heap.size w8 w9 := by rw [hw9]; exact (Below.refl _ _).alloc (Nat.le_refl _) _
              have hG : w9.heap[w8.heap.size]? = some (Obj.cells #[.bool gv.isSome, .int .i64 (gv.getD 0)] 75 (0, 0)) := by rw [hw9]; exact heap_alloc_at _ _
              have H9 := Lib.hid (H8.out.on hb9)
              have HK9 := Lib.hid (HK8.out.trans (KeepV.of_below hb9))
              have HOWN9 := Lib.hid (own_keep HOWN8.out (Keep.of_below (S := []) hb9) (fun x hx => by cases hx))
              have g0 := cellB' hG 0 rfl
              have g1 := cellB' hG 1 rfl
              have hGl := lt_of_block hG
              have hs9 := hb9.size
              clear hw9 hb9 hG
              cases gv with
              | none =>
                simp only [Option.isSome_none] at g0
                have ER := Lib.hid (E.out.trans (by rw [resultsV_bad HGE.out HGV.out]))
                go_wp2_with fail
                go_ret2
                have hm := HML.out
                rw [ER.out] at hm ⊢
                exact ⟨(HKP.out.trans HK9.out).keep rfl (fun x hx => by simp at hx ⊢; omega), hm, fun out h => (by cases h), fun _ => ⟨rfl, H9.out.rm⟩⟩
              | some v =>
                simp only [Option.isSome_some, Option.getD_some] at g0 g1
                have HVV := Lib.hid (getv_I64 H9.out.vsI _ _ HGV.out)
                have hnw : (w9.alloc (Obj.cells #[Value.int IntKind.i64 v] 2)).cell? ((⟨w9.heap.size, 0, none⟩ : Addr).add 0) = some (Value.int IntKind.i64 v) := by
                  have := cellB' (heap_alloc_at w9 (Obj.cells #[Value.int IntKind.i64 v] 2)) 0 rfl
                  exact this
                have hlr := r2.1
                go_wp2_with (at_builtin; go_loud (refine append_one rfl (.tmp 87) (.tmp 90) rfl Tryz.underlying35 (by decide) Tryz.info64 rfl w5.heap.size _ j _ rfl (HOWN9.out.alloc _) ⟨w9.heap.size, 0, none⟩ (Value.int .i64 v) rfl rfl hnw (by omega) (by simp; omega) ?_))
                intro v6' w10 hown10 hgr10 hfr10
                have H10 := Lib.hid (H9.out.grown2 (HOWN9.out.alloc _) (by decide) hgr10 (by omega))
                have HK10 := Lib.hid (HK9.out.grown (HOWN9.out.alloc _) hgr10 (Nat.le_refl _))
                have HOWN10 := Lib.hid hown10
                clear hgr10 hfr10 hown10 hnw
                go_wp2_with fail
                refine ⟨⟨j + 1, vals ++ [v], hlt, by simp, by simp [HVL.out], ?_, ?_, by simpa using HOWN10.out, H10.out, HK10.out⟩, by simp [intOf]; omega⟩
                · intro x hx
                  rcases List.mem_append.1 hx with hx | hx
                  · exact HVI.out x hx
                  · simp at hx; subst hx; exact HVV.out
                · rw [HT.out]; exact resultsV_snoc HRS.out HGV.out
            · obtain rfl : j = f.results.length := by omega
              have ER := Lib.hid (E.out.trans (by rw [show resultsV st'.vs f.results = some vals by have h := HRS.out; rw [List.take_length] at h; exact h]))
              go_wp2_with fail
              go_ret2
              have hm := HML.out
              rw [ER.out] at hm ⊢
              refine ⟨(HKP.out.trans HK7.out).keep rfl (fun x hx => by simp at hx ⊢; omega), hm, fun out h => ?_, fun h => (by cases h)⟩
              simp only [Option.some.injEq] at h
              subst h
              refine ⟨⟨_, rfl, ?_⟩, H7.out.rm, H7.out.memI, HVI.out⟩
              have h2 := own_weaken HOWN.out (B' := w.heap.size) (by omega)
              rw [HVL.out]
              exact h2
end Go.Proofs.YtoaajpppbjaomaaGreatDoor
/- The reference's runner: instant, Step, Begin, Defined. -/
namespace Go.Proofs.YtoaajpppbjaomaaGreatDoor
open Go.RowKit
theorem instq_any {W : World} {R M : Nat} {fv : Value} {funs : List FN} {nf : Nat} (hrep : RepV (RepF W nf) 6 W fv funs) (hr : RightP funs) (hB : NameB funs) : ∀ n K, K ≤ n → K ≤ funs.length → InstQC W R M fv (instF funs n) funs K := by
  intro n
  induction n with
  | zero => intro K hK _ k w bi be mem cnt ins vi hk; omega
  | succ n ih => exact fun K hK hKl => instq_step hrep hr hB hKl (fun k hk => ih k (by omega) (by omega))
section
variable {W w : World} {R M : Nat} {fv : Value} {mem : Mem} {tr : Bool} {cnt : Int} (h : RMem W w R M fv mem tr cnt)
include h
theorem RMem.c0 : w.cell? ⟨R, 0, none⟩ = some fv := cellB' h.hR 0 rfl
theorem RMem.c1 : w.cell? ⟨R, 1, none⟩ = some (.slice (some ⟨M, 0, none⟩) mem.length mem.length) := cellB' h.hR 1 rfl
theorem RMem.c2 : w.cell? ⟨R, 2, none⟩ = some (.bool tr) := cellB' h.hR 2 rfl
theorem RMem.c3 : w.cell? ⟨R, 3, none⟩ = some (.int .i64 cnt) := cellB' h.hR 3 rfl
theorem RMem.m {i : Nat} {o : Option Int} (hi : mem[i]? = some o) : w.cell? ⟨M, i * 2, none⟩ = some (.bool o.isSome) ∧ w.cell? ⟨M, i * 2 + 1, none⟩ = some (.int .i64 (o.getD 0)) := by
  have hm := memQ_get hi
  rw [cellB h.hM, cellB h.hM]
  exact hm
theorem RMem.put2 (b : Bool) : RMem W (w.setCell ⟨R, 2, none⟩ (.bool b)) R M fv mem b cnt ∧ Keep [R, M] w (w.setCell ⟨R, 2, none⟩ (.bool b)) := by
  have hk : Keep [R, M] w (w.setCell ⟨R, 2, none⟩ (.bool b)) := (Keep.refl _ _).setCell (.inl (by simp)) _
  exact ⟨{ h with
    below := hk.below h.below h.below.size (fun x hx => by
      have := h.geR
      have := h.geM
      simp at hx; omega)
    hR := by rw [heap_setCell_eq h.hR]; rfl
    hM := (heap_setCell_ne 2 _ (Ne.symm h.RM)).trans h.hM }, hk⟩
theorem RMem.put3 (c : Int) : RMem W (w.setCell ⟨R, 3, none⟩ (.int .i64 c)) R M fv mem tr c ∧ Keep [R, M] w (w.setCell ⟨R, 3, none⟩ (.int .i64 c)) := by
  have hk : Keep [R, M] w (w.setCell ⟨R, 3, none⟩ (.int .i64 c)) := (Keep.refl _ _).setCell (.inl (by simp)) _
  exact ⟨{ h with
    below := hk.below h.below h.below.size (fun x hx => by
      have := h.geR
      have := h.geM
      simp at hx; omega)
    hR := by rw [heap_setCell_eq h.hR]; rfl
    hM := (heap_setCell_ne 3 _ (Ne.symm h.RM)).trans h.hM }, hk⟩
end
def DefQ (mem : Mem) (w : World) (n i : Value) (wr : World) : Prop := ∃ j, j ≤ mem.length ∧ i = .int .i64 (j : Nat) ∧ n = .int .i64 (definedF (mem.take j) : Nat) ∧ wr = w
set_option maxHeartbeats 400000 in
theorem definedq_any {W w : World} {R M : Nat} {fv : Value} {mem : Mem} {tr : Bool} {cnt : Int} (h : RMem W w R M fv mem tr cnt) : Calls Tryz.prog 17 #[.pointer (some ⟨R, 0, none⟩)] w (Ret (.int .i64 (definedF mem : Nat)) w) := by
  have c1 := h.c1
  have hl := h.mlen
  have HH := Lib.hid h
  have hRl := lt_of_block h.hR
  have hMl := lt_of_block h.hM
  clear h
  go_enter Tryz.func17, Tryz.ntmps17
  go_wp2_with fail
  go_loopw [3, 4] (fun n i wr => DefQ mem w n i wr) (fun _ i _ => mem.length - (intOf i).toNat)
  case atStart => exact ⟨0, Nat.zero_le _, rfl, rfl, rfl⟩
  case round =>
    obtain ⟨j, hj, rfl, rfl, rfl⟩ := hrel
    by_cases hlt : j < mem.length
    · have hg : mem[j]? = some mem[j] := List.getElem?_eq_getElem hlt
      have hc0 := (HH.out.m hg).1
      have hd := definedF_take mem hg
      have hle := definedF_le mem (j + 1)
      generalize mem[j] = o at hg hc0 hd
      have HD := Lib.hid hd
      clear hg
      cases o with
      | none =>
        simp only [Option.isSome_none] at hc0 hd
        clear hd
        go_wp2_with fail
        exact ⟨⟨j + 1, hlt, by simp, by rw [HD.out]; simp, rfl⟩, by simp [intOf]; omega⟩
      | some x =>
        simp only [Option.isSome_some] at hc0 hd
        have hd' : (definedF (mem.take j) : Int) + 1 = (definedF (mem.take (j + 1)) : Nat) := by rw [hd]; simp
        clear hd
        go_wp2_with fail
        exact ⟨⟨j + 1, hlt, by simp, by rw [← hd'], rfl⟩, by simp [intOf]; omega⟩
    · obtain rfl : j = mem.length := by omega
      go_wp2_with fail
      go_ret
      rw [List.take_length]
      exact ⟨rfl, rfl⟩
structure BeginQ (W : World) (R M : Nat) (fv : Value) (mem : Mem) (w : World) (e : Ending) (w' : World) : Prop where
  ret : e = .returned (.tuple #[])
  keep : Keep [R, M] w w'
  st : RMem W w' R M fv mem false 0
set_option maxHeartbeats 400000 in
theorem beginq_any {W w : World} {R M : Nat} {fv : Value} {mem : Mem} {tr : Bool} {cnt : Int} {funs : List FN} {nf : Nat} (hrep : RepV (RepF W nf) 6 W fv funs) (hr : RightP funs) (h0 : 0 < funs.length)
    (h : RMem W w R M fv mem tr cnt) (hl : (funs.getD (lastF funs) default).cells.toNat ≤ mem.length) :
    Calls Tryz.prog 11 #[.pointer (some ⟨R, 0, none⟩)] w (BeginQ W R M fv (anewF funs funs.length (lastF funs) 0 mem) w) := by
  obtain ⟨A, c, rfl, hc1, hc2, hfl⟩ := hrep.sl
  have HH := Lib.hid h
  have hlast : lastF funs < funs.length := by unfold lastF; omega
  have c0 := h.c0
  have hRl := lt_of_block h.hR
  have e1 : (funs.length : Int) - 1 = ((lastF funs : Nat) : Int) := by unfold lastF; omega
  clear h
  go_enter Tryz.func11, Tryz.ntmps11
  go_wp2_with fail
  refine (anewq_any hrep hr funs.length (lastF funs) 0 mem w hlast hlast (by omega) HH.out).mono ?_
  rintro e w2 ⟨rfl, h2, hk2⟩
  have H2 := Lib.hid h2
  have HK := Lib.hid (hk2.mono (S' := [R, M]) (by simp))
  have g2 := frozB h2.hR 2
  have hRl2 := lt_of_block h2.hR
  have x2 := h2.c2
  have x3 := h2.c3
  have g3 := frozB h2.hR 3
  clear h2 hk2 c0
  go_wp2_with fail
  go_end0
  obtain ⟨p1, k1⟩ := H2.out.put2 false
  obtain ⟨p2, k2⟩ := p1.put3 0
  exact ⟨rfl, HK.out.trans (k1.trans k2), p2⟩
structure RunQ (W : World) (R M : Nat) (fv : Value) (r : RS × List Int × Int) (w : World) (e : Ending) (w' : World) : Prop where
  ret : ∃ v, e = .returned (.tuple #[v, .int .i64 r.2.2]) ∧ w'.ownsRow w.heap.size 2 1 v r.2.1.length (r.2.1.map (Value.int .i64))
  keep : Keep [R, M] w w'
  st : RMem W w' R M fv r.1.mem r.1.trapped r.1.count
  memI : r.1.trapped = false → ∀ v, some v ∈ r.1.mem → I64 v
set_option maxRecDepth 100000 in
set_option maxHeartbeats 2000000 in
theorem runq_step {W w : World} {R M : Nat} {fv : Value} {funs : List FN} {nf : Nat} (hrep : RepV (RepF W nf) 6 W fv funs) (hr : RightP funs) (hB : NameB funs) (h0 : 0 < funs.length) {r : RS}
    (h : RMem W w R M fv r.mem r.trapped r.count) (hmI : r.trapped = false → ∀ v, some v ∈ r.mem → I64 v) {ins : List Int} {vi : Value} (hin : Ints w vi ins) (hinI : ∀ v, v ∈ ins → I64 v) (_hil : ins.length ≤ 1048576) (hne : ∀ x, x ∈ [R, M] → ∀ o n c, 0 < n → vi ≠ .slice (some ⟨x, o, none⟩) n c) :
    Calls Tryz.prog 13 #[.pointer (some ⟨R, 0, none⟩), vi] w (RunQ W R M fv (stepF funs r ins) w) := by
  have hlast : lastF funs < funs.length := by unfold lastF; omega
  generalize hf : funs.getD (lastF funs) default = f
  obtain ⟨b, o, c, Ap, cp, Ar, cr, Af, cf, Aq, cq, Ab, cb, rfl, -, hbW, k0, k1, k2, k3, k4, k5, r1, r2, r3, r4, r5⟩ := fn_cells hrep h.below hlast hf
  have hfl := hrep.1
  have HF := Lib.hid hf
  have HH := Lib.hid h
  have HIN := Lib.hid hin
  have HREP := Lib.hid hrep
  have hRl := lt_of_block h.hR
  have hbl : b < w.heap.size := Nat.lt_of_lt_of_le hbW h.below.size
  have c0 := h.c0
  have c2 := h.c2
  have c3 := h.c3
  have z3 := frozB h.hR 3
  have z2 := frozB h.hR 2
  have hpl := r1.1
  obtain ⟨Ai, ci, hvi, -⟩ := hin
  subst hvi
  have e1 : (funs.length : Int) - 1 = ((lastF funs : Nat) : Int) := by unfold lastF; omega
  generalize hst : stepF funs r ins = res
  have HST := Lib.hid hst
  clear h hf hrep hst k1 k2 k3 k4 k5
  go_enter Tryz.func13, Tryz.ntmps13
  by_cases hlen : ins.length = f.params.length
  · have d1 : ((ins.length : Int) != (f.params.length : Int)) = false := by simp [hlen]
    have HLEN := Lib.hid hlen
    clear hlen
    cases htr : r.trapped with
    | true =>
      rw [htr] at c2
      have E := Lib.hid (HST.out.symm.trans (stepF_trapped HF.out HLEN.out htr))
      have HTR := Lib.hid htr
      have HMI := Lib.hid hmI
      clear htr hmI
      go_wp2_with fail
      go_ret2
      rw [E.out]
      exact ⟨⟨_, rfl, World.ownsRow_nil _ _ _ _⟩, Keep.refl _ _, HH.out, HMI.out⟩
    | false =>
      rw [htr] at c2
      have E := Lib.hid (HST.out.symm.trans (stepF_go HF.out HLEN.out htr))
      have HMI := Lib.hid (hmI htr)
      have H0 := Lib.hid (show RMem W (w.setCell ⟨R, 3, none⟩ (.int .i64 0)) R M _ r.mem false 0 from htr ▸ (HH.out.put3 0).1)
      have HK0 := Lib.hid (HH.out.put3 0).2
      clear hmI htr
      go_wp2_with fail
      obtain ⟨w2, hw2⟩ : ∃ w2, w2 = w.setCell ⟨R, 3, none⟩ (.int .i64 0) := ⟨_, rfl⟩
      rw [← hw2]
      have H2 := Lib.hid (hw2 ▸ H0.out : RMem W w2 R M _ r.mem false 0)
      have HK2 := Lib.hid (hw2 ▸ HK0.out : Keep [R, M] w w2)
      have HIN2 := Lib.hid (HIN.out.kept2 HK2.out hne)
      clear hw2 H0 HK0
      have hs2 := HK2.out.size
      refine (instq_any HREP.out hr hB funs.length funs.length (Nat.le_refl _) (Nat.le_refl _) (lastF funs) w2 0 0 r.mem 0 ins _ hlast H2.out (.inl ⟨by omega, by omega, rfl⟩) (by unfold I64; omega) HMI.out HIN2.out hinI (by rw [HF.out]; exact HLEN.out) hne).mono ?_
      intro e w3 hP
      generalize hq : instF funs funs.length (lastF funs) 0 ins r.mem 0 = q at hP
      obtain ⟨ro, mem', cnt'⟩ := q
      have HK3 := Lib.hid (HK2.out.trans hP.keep)
      cases ro with
      | none =>
        obtain ⟨rfl, hr3⟩ := hP.no rfl
        have ER := Lib.hid (E.out.trans (by rw [hq]))
        have H3 := Lib.hid hr3
        have x2 := hr3.c2
        have g2 := frozB hr3.hR 2
        have hRl3 := lt_of_block hr3.hR
        clear hP hr3 hq c0 c2 c3 k0
        go_wp2_with fail
        go_ret2
        rw [ER.out]
        obtain ⟨p1, k1⟩ := H3.out.put2 true
        exact ⟨⟨_, rfl, World.ownsRow_nil _ _ _ _⟩, HK3.out.trans k1, p1, fun h => (by cases h)⟩
      | some out =>
        obtain ⟨⟨lv, rfl, hown⟩, hr3, hmI3, hoI⟩ := hP.yes out rfl
        have ER := Lib.hid (E.out.trans (by rw [hq]))
        have H3 := Lib.hid hr3
        have HOWN := Lib.hid hown
        have HMI3 := Lib.hid hmI3
        obtain ⟨A7, c7, hlv⟩ := own_sl hown
        subst hlv
        clear hP hr3 hown hmI3 hoI hq c0 c2 c3 k0
        go_wp2_with fail
        go_ret2
        rw [ER.out]
        exact ⟨⟨_, rfl, own_weaken HOWN.out hs2⟩, HK3.out, H3.out, fun _ => HMI3.out⟩
  · have d1 : ((ins.length : Int) != (f.params.length : Int)) = true := by simpa using (by omega : ¬ (ins.length : Int) = f.params.length)
    have E := Lib.hid (HST.out.symm.trans (stepF_len HF.out hlen))
    have HMI := Lib.hid hmI
    clear hmI hlen
    go_wp2_with fail
    go_ret2
    rw [E.out]
    exact ⟨⟨_, rfl, World.ownsRow_nil _ _ _ _⟩, Keep.refl _ _, HH.out, HMI.out⟩
end Go.Proofs.YtoaajpppbjaomaaGreatDoor
/- The reference's takes. -/
namespace Go.Proofs.YtoaajpppbjaomaaGreatDoor
open Go.RowKit
def TakesC (W : World) (n : Nat) : Prop := ∀ (l : List FS) (A : Option Addr) (c : Nat) (k : Int) (w : World) (vt : Value) (ws : List Int), Below W.heap.size W w → RepV (RepS W n) 12 W (.slice A l.length c) l → callsL l k = true → k ≤ ws.length →
  Ints w vt ws → Small ws → ws.length ≤ 1048576 → Calls Tryz.prog 39 #[.slice A l.length c, vt] w (RetB (.int .i64 (takesL 1001 ws l 0)) w)
def TkQ (ws : List Int) (l : List FS) (w : World) (n i : Value) (wr : World) : Prop :=
  ∃ (j : Nat) (m : Int), j ≤ l.length ∧ i = .int .i64 j ∧ n = .int .i64 m ∧ 0 ≤ m ∧ m ≤ 1001 ∧ takesL 1001 ws l 0 = takesL 1001 ws (l.drop j) m ∧ Below w.heap.size w wr
def TkAQ (ws : List Int) (l : List FA) (m1 : Int) (w : World) (n i : Value) (wr : World) : Prop :=
  ∃ (j : Nat) (m : Int), j ≤ l.length ∧ i = .int .i64 j ∧ n = .int .i64 m ∧ 0 ≤ m ∧ m ≤ 2002 + 1001 * (j : Int) ∧ takesAs 1001 ws l m1 = takesAs 1001 ws (l.drop j) m ∧ Below w.heap.size w wr
set_option maxRecDepth 100000 in
set_option maxHeartbeats 1000000 in
theorem takes_core {W : World} {n : Nat} (l : List FS) (A : Option Addr) (c : Nat) (k : Int) (w : World) (vt : Value) (ws : List Int) (hW : Below W.heap.size W w) (hrep : RepV (RepS W (n + 1)) 12 W (.slice A l.length c) l) (hcal : callsL l k = true) (hkd : k ≤ ws.length)
    (hid : Ints w vt ws) (hbd : Small ws) (hdl : ws.length ≤ 1048576) (IH : l ≠ [] → TakesC W n) :
    Calls Tryz.prog 39 #[.slice A l.length c, vt] w (RetB (.int .i64 (takesL 1001 ws l 0)) w) := by
  have hll := hrep.1
  have HREP := Lib.hid hrep
  have HID := Lib.hid hid
  have HIH := Lib.hid IH
  have HCAL := Lib.hid hcal
  have HBD := Lib.hid hbd
  have hW0 := hW.size
  have HW := Lib.hid hW
  obtain ⟨Ad, cd, rfl, -⟩ := hid
  generalize htt : takesL 1001 ws l 0 = tt
  have HTT := Lib.hid htt
  clear hrep IH hcal hbd hW htt
  go_enter Tryz.func39, Tryz.ntmps39
  go_wp2_with fail
  go_loopw [5, 6] (fun n i wr => TkQ ws l w n i wr) (fun _ i _ => l.length - (intOf i).toNat)
  case atStart => exact ⟨0, 0, Nat.zero_le _, rfl, rfl, by omega, by omega, rfl, Below.refl _ _⟩
  case round =>
    obtain ⟨j, m, hj, rfl, rfl, hm0, hm1, htk, hb⟩ := hrel
    have HB := Lib.hid hb
    have HTK := Lib.hid htk
    have hbs := hb.size
    clear hb htk
    by_cases hlt : j < l.length
    · obtain ⟨b, o, c', op, name, at_, fn, names, e, args, arms, aN, cN, eo, en, ev, aC, lC, cC, aK, lK, cK, aA, cA, aR, cR, he, hbW, hs', q0, q1, q2, q3, q4, q5, q6, q7, q8, q9, q10, q11, i1, i2, i3, p1, p2, p3, p4⟩ := stmt_cells HREP.out (HW.out.trans (HB.out.mono hW0)) hlt
      injection he with he1 he2 he3
      subst he1
      have har := p4.1
      have HG := Lib.hid (show l[j]? = some (.mk op name at_ fn names e args arms) by rw [List.getElem?_eq_getElem hlt, hs'])
      have hcs := callsL_at HCAL.out HG.out
      simp only [callsS, Bool.and_eq_true] at hcs
      have HCA := Lib.hid hcs.2
      have HAR := Lib.hid p4
      have hne : l ≠ [] := (by intro h; rw [h] at hlt; simp at hlt)
      have HIHn := Lib.hid (HIH.out hne)
      have hcs1 := hcs.1
      have hbl : b < wr.heap.size := by omega
      clear p1 p2 p3 p4 hs' he2 he3 hne hcs
      have hbB : Below W.heap.size W wr := HW.out.trans (HB.out.mono hW0)
      have Q11 : W.cell? ⟨b, o + j * 12 + 11, none⟩ = some (.slice aR arms.length cR) := (hbB.cell (p := ⟨b, o + j * 12 + 11, none⟩) hbW).symm.trans q11
      clear hbB
      go_upto_if 19 with fail
      go_cut [5] from 14 to 54 (fun v wx => v = .int .i64 (if op = 3 then m + ws.getD fn.toNat 0 else m) ∧ 0 ≤ (if op = 3 then m + ws.getD fn.toNat 0 else m) ∧ (if op = 3 then m + ws.getD fn.toNat 0 else m) ≤ 2002 ∧ wx = wr)
      case first =>
        by_cases h3 : op = 3
        · have hf : 0 ≤ fn ∧ fn < k := by
            simp only [h3] at hcs1
            simp at hcs1
            omega
          obtain ⟨fk, rfl⟩ := Int.eq_ofNat_of_zero_le hf.1
          have hfl : fk < ws.length := by omega
          obtain ⟨bt, ot, ct', het, hbt, hct⟩ := int_cell (HID.out.kept (S := []) (Keep.of_below HB.out) (fun x hx => by cases hx)) hfl
          injection het with e1 e2 e3
          subst e1
          have hx := HBD.out ws[fk] (List.getElem_mem _)
          have HXV := Lib.hid (show ws.getD fk 0 = ws[fk] by rw [List.getD_eq_getElem?_getD, List.getElem?_eq_getElem hfl]; rfl)
          generalize hxv : ws[fk] = xv at hct hx HXV
          subst h3
          clear hxv e2 e3 hcs1
          go_wp2_with fail
          go_meet
          case rel => simp only [if_true, Int.toNat_natCast]; rw [HXV.out]; exact ⟨rfl, by omega, by omega, trivial⟩
        · have e3 : (op == 3) = false := by simp [h3]
          have H3 := Lib.hid h3
          go_wp2_with fail
          go_meet
          case rel => rw [if_neg H3.out]; exact ⟨rfl, by omega, by omega, rfl⟩
      case rest =>
        obtain ⟨rfl, hm2, hm3, rfl⟩ := hcut
        have HTS := Lib.hid (show takesS 1001 ws (.mk op name at_ fn names e args arms) m = takesAs 1001 ws arms (if op = 3 then m + ws.getD fn.toNat 0 else m) by simp only [takesS])
        generalize (if op = 3 then m + ws.getD fn.toNat 0 else m) = m1 at hm2 hm3 HTS ⊢
        clear hcs1 q0 q1 q2 q3 q4 q5 q6 q7 q8 q9 q10 q11
        go_wp2_with fail
        go_loopw [5, 7] (fun n i w2 => TkAQ ws arms m1 w n i w2) (fun _ i _ => arms.length - (intOf i).toNat)
        case atStart => exact ⟨0, m1, Nat.zero_le _, rfl, rfl, by omega, by omega, rfl, HB.out⟩
        case round =>
          obtain ⟨i, m2, hi, rfl, rfl, hm4, hm5, hta, hb2⟩ := hrel
          have hbB : Below W.heap.size W wr := HW.out.trans (hb2.mono hW0)
          have q11 : wr.cell? ⟨b, o + j * 12 + 11, none⟩ = some (.slice aR arms.length cR) := (hbB.cell (p := ⟨b, o + j * 12 + 11, none⟩) hbW).trans Q11
          have HB2 := Lib.hid hb2
          have HTA := Lib.hid hta
          have hbs2 := hb2.size
          clear hb2 hbB hta
          by_cases hlt2 : i < arms.length
          · obtain ⟨ba, oa, ca, Ab, cb, hae, hab, ha0, ha1, hbody⟩ := arm_cells HAR.out (HW.out.trans (HB2.out.mono hW0)) hlt2
            injection hae with e1 e2 e3
            subst e1
            have hAg : arms[i]? = some arms[i] := List.getElem?_eq_getElem hlt2
            have hcl := callsAs_at HCA.out hAg
            have HBO := Lib.hid hbody
            have HTryz := Lib.hid (takesAs_at (c := 1001) (w := ws) hAg m2)
            generalize arms[i] = a at *
            have HCL := Lib.hid hcl
            have hxa := takesL_ge (c := 1001) (w := ws) (by omega) (fun x hx => (HBD.out x hx).1) a.body 0 (Int.le_refl _)
            have hxb := takesL_le (c := 1001) (w := ws) a.body 0 (by omega)
            clear hcl hAg hbody e2 e3
            go_wp2_with fail
            refine (HIHn.out a.body Ab cb k _ _ ws (HW.out.trans (HB2.out.mono hW0)) HBO.out HCL.out hkd (HID.out.kept (S := []) (Keep.of_below HB2.out) (fun x hx => by cases hx)) HBD.out hdl).mono ?_
            rintro e4 w4 ⟨rfl, hb4⟩
            have HB4 := Lib.hid (HB2.out.trans (hb4.mono hbs2))
            generalize hxt : takesL 1001 ws a.body 0 = xt at hxa hxb ⊢
            have HXT := Lib.hid hxt
            clear hb4 hxt
            go_wp2_with fail
            exact ⟨⟨i + 1, m2 + xt, hlt2, by simp, rfl, by omega, by omega, by rw [HTA.out, HTryz.out, HXT.out], HB4.out⟩, by simp [intOf]; omega⟩
          · obtain rfl : i = arms.length := by omega
            have hmm : takesAs 1001 ws arms m1 = m2 := by rw [HTA.out, List.drop_length]; simp [takesAs]
            have HMM := Lib.hid hmm
            clear hmm
            go_wp2_with fail
            refine ⟨⟨j + 1, min m2 1001, hlt, by simp, ?_, by omega, by omega, ?_, HB2.out⟩, by simp [intOf]; omega⟩
            · first | rfl | (congr 1; omega) | (congr 1; split <;> omega)
            · rw [HTK.out, takesL_at HG.out, HTS.out, HMM.out]
    · obtain rfl : j = l.length := by omega
      have E := Lib.hid (HTT.out.symm.trans (HTK.out.trans (by rw [List.drop_length, takesL_nil])))
      go_wp2_with fail
      go_ret
      exact ⟨by rw [E.out]; rfl, HB.out⟩
theorem takes_any (W : World) : ∀ n, TakesC W n := by
  intro n
  induction n with
  | zero =>
    intro l A c k w vt ws hW hrep hcal hk hin hsm hwl
    obtain ⟨hl, hr⟩ := repS_nil (n := 1) hrep
    exact takes_core l A c k w vt ws hW hr hcal hk hin hsm hwl (fun h => absurd hl h)
  | succ n ih => exact fun l A c k w vt ws hW hrep hcal hk hin hsm hwl => takes_core l A c k w vt ws hW hrep hcal hk hin hsm hwl (fun _ => ih)
end Go.Proofs.YtoaajpppbjaomaaGreatDoor
