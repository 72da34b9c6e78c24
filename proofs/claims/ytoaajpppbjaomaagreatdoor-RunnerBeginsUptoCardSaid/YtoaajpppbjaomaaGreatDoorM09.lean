/- Texts merged by program: parts Lo, Lp, Lq, Lr, Ca, Cb, Cc, Cd. -/
import Derived.Test.YtoaajpppbjaomaaGreatDoorM08
/- reread.Parse on a text that is one function. -/
namespace Go.Proofs.YtoaajpppbjaomaaGreatDoor
open Go.RowKit
set_option maxRecDepth 100000 in
set_option maxHeartbeats 1000000 in
theorem parse_catch (p1 p2 : Value) (w : World) :
    CallsD Tryz.prog 31 #[p1, p2] .returning w fun e u' w' => e = .returned (.tuple #[]) ∧ u' = .returning ∧ w' = w := by
  refine callsD_of_wpS Tryz.func31 rfl fun c₀ cs hu => ?_
  apply wpS_seq
  apply wpS_region
  simp [wpOpsS, go_sem, recoverD, hu, Tryz.ntmps31, Exit.thenS]
  refine wpS_of_wp ?_
  have ht : ∀ p1 p2 v : Value, #[p1, p2] ++ (((Array.replicate 16 undef).setIfInBounds 3 v).setIfInBounds 0 v) = #[p1, p2, v, undef, undef, v, undef, undef, undef, undef, undef, undef, undef, undef, undef, undef, undef, undef] := by intro _ _ _; kernel_rfl
  rw [ht]
  clear ht
  go_wp2_with fail
  cases c₀
  simp_all [bodyPostS, results, Tryz.results31]
theorem Tryz.infoFu : (Tryz.prog.info? 50).map (fun i => (i.zero, i.size, i.bytes)) = some (some (.agg zeroFu), 6, 128) := by kernel_rfl
/-- the text's words, as a text that is one function -/
structure TextOk (t : ByteArray) (ws : List ByteArray) (n : Nat) (s0 s1 sc sf : ByteArray) (kc kf : Nat) (l : List FS) (j : Nat) : Prop where
  size : t.size ≤ 1048576
  asc : ∀ c, c ∈ t.data.toList → c.toNat < 128
  words : fwGo t t.data.toList 0 (-1) = ws
  len : ws.length ≤ 1000
  head : HeadW ws 0 s0 s1 sc sf kc kf
  b0 : ws[18]? = some ⟨#[123]⟩
  b1 : ws[j]? = some ⟨#[125]⟩
  jl : j + 1 = ws.length
  ll : l.length ≤ 1000
  chain : ∀ W, ErrV W → ∀ P B cap, Chain W P B cap ws 1 n 19 l j
def ParseP (n : Nat) (s0 s1 : ByteArray) (kc kf : Nat) (l : List FS) (w : World) (e : Ending) (w' : World) : Prop :=
  ∃ G fv c A, e = .returned (.tuple #[.agg #[.slice (some ⟨G, 0, none⟩) 1 c], .agg #[.int .i64 0, .int .i64 0, .int .i64 0]]) ∧ fv = .agg A ∧ FunV w' w.heap.size n s0 s1 kc kf l fv ∧ w'.ownsRow w.heap.size 50 6 (.slice (some ⟨G, 0, none⟩) 1 c) 1 A.toList ∧ Below w.heap.size w w'
theorem FunV.keep {w w' : World} {lo n : Nat} {s0 s1 : ByteArray} {kc kf : Nat} {l : List FS} {v : Value} (h : FunV w lo n s0 s1 kc kf l v) {S : List Nat} (hk : Keep S w w') (hS : ∀ x, x ∈ S → x < lo) : FunV w' lo n s0 s1 kc kf l v := by
  obtain ⟨G0, G1, A3, c3, A5, c5, h1, h2, h3, h4, h5, h6, h7⟩ := h
  exact ⟨G0, G1, A3, c3, A5, c5, h1, (hk.block _ (lt_of_block h2) (fun hm => by have := hS _ hm; omega)).trans h2, (hk.block _ (lt_of_block h3) (fun hm => by have := hS _ hm; omega)).trans h3, h4, h5, own_keep h6 hk hS, h7.keep hk hS⟩
theorem FunV.low {w : World} {lo lo' n : Nat} {s0 s1 : ByteArray} {kc kf : Nat} {l : List FS} {v : Value} (h : FunV w lo n s0 s1 kc kf l v) (hl : lo' ≤ lo) : FunV w lo' n s0 s1 kc kf l v := by
  obtain ⟨G0, G1, A3, c3, A5, c5, h1, h2, h3, h4, h5, h6, h7⟩ := h
  exact ⟨G0, G1, A3, c3, A5, c5, h1, h2, h3, by omega, by omega, own_weaken h6 hl, h7.low hl⟩
theorem parse_mid {w wr w5 w' : World} {P g cp i n : Nat} {ws : List ByteArray} {s0 s1 : ByteArray} {kc kf : Nat} {l : List FS} {v v' : Value} {six : List Value} (_hwr : Below w.heap.size w wr) (_hP : P < wr.heap.size) (hPw : w.heap.size + 1 < P) (hg : w.heap.size ≠ g) (hRP : w.heap.size < wr.heap.size)
    (hk : Keep [P] wr.drew w5) (hps : PS w w5 P g cp ws i 0) (hX : wr.heap[w.heap.size]? = some (.cells #[.slice none 0 0] 24 (0, 0))) (hY : wr.heap[w.heap.size + 1]? = some (.cells #[.int .i64 0, .int .i64 0, .int .i64 0] 52 (0, 0)))
    (hf : FunV w5 wr.heap.size n s0 s1 kc kf l v) (hgr : (w5.alloc (.cells six.toArray 50)).grownBy w' (Value.slice none 0 0).ownBlock) (hown : w'.ownsRow wr.heap.size 50 6 v' (0 + 1) ([] ++ six)) :
    PS w (w'.setCell ⟨w.heap.size, 0, none⟩ v') P g cp ws i 0 ∧ (w'.setCell ⟨w.heap.size, 0, none⟩ v').heap[w.heap.size]? = some (.cells #[v'] 24 (0, 0)) ∧ (w'.setCell ⟨w.heap.size, 0, none⟩ v').heap[w.heap.size + 1]? = some (.cells #[.int .i64 0, .int .i64 0, .int .i64 0] 52 (0, 0)) ∧
      FunV (w'.setCell ⟨w.heap.size, 0, none⟩ v') wr.heap.size n s0 s1 kc kf l v ∧ (w'.setCell ⟨w.heap.size, 0, none⟩ v').ownsRow wr.heap.size 50 6 v' 1 six := by
  have k1 : Keep [P] wr w5 := (Keep.of_below (Below.refl wr.heap.size wr).drew).trans hk
  have ka : Keep ([] : List Nat) w5 (w5.alloc (.cells six.toArray 50)) := (Keep.refl _ _).alloc _
  have kg : Keep ([] : List Nat) (w5.alloc (.cells six.toArray 50)) w' := (keep_of_grown hgr).mono (fun x hx => by simp [Value.ownBlock] at hx)
  have ks : Keep [w.heap.size] w' (w'.setCell ⟨w.heap.size, 0, none⟩ v') := (Keep.refl _ _).setCell (.inl (by simp)) _
  have kag := ka.trans kg
  have ks1 := k1.size
  have hX5 := (k1.block _ (lt_of_block hX) (by simp; omega)).trans hX
  have hX' := (kag.block _ (lt_of_block hX5) (by simp)).trans hX5
  have hY5 := (k1.block _ (lt_of_block hY) (by simp; omega)).trans hY
  have hY' := (kag.block _ (lt_of_block hY5) (by simp)).trans hY5
  have hS : ∀ x, x ∈ [w.heap.size] → x = w.heap.size := fun x hx => by simpa using hx
  refine ⟨(hps.kept kag (fun x hx => by cases hx)).kept ks (fun x hx => by rw [hS x hx]; omega), ?_, ?_, ?_, ?_⟩
  · rw [heap_setCell_eq hX']; rfl
  · exact (heap_setCell_ne 0 v' (by omega)).trans hY'
  · exact (hf.keep kag (fun x hx => by cases hx)).keep ks (fun x hx => by rw [hS x hx]; exact hRP)
  · exact own_keep (by simpa using hown) ks (fun x hx => by rw [hS x hx]; exact hRP)
theorem parse_out {w10 : World} {R g' cap' : Nat} (hx : w10.heap[R]? = some (.cells #[.slice (some ⟨g', 0, none⟩) 1 cap'] 24 (0, 0))) (hy : w10.heap[R + 1]? = some (.cells #[.int .i64 0, .int .i64 0, .int .i64 0] 52 (0, 0))) (wx : World)
    (hwx : wx = ((((w10.setCell ⟨R, 0, none⟩ (.slice (some ⟨g', 0, none⟩) 1 cap')).setCell ⟨R + 1, 0, none⟩ (.int .i64 0)).setCell ⟨R + 1, 1, none⟩ (.int .i64 0)).setCell ⟨R + 1, 2, none⟩ (.int .i64 0))) :
    Keep [R, R + 1] w10 wx ∧ wx.cell? ⟨R, 0, none⟩ = some (.slice (some ⟨g', 0, none⟩) 1 cap') ∧ wx.cell? ⟨R + 1, 0, none⟩ = some (.int .i64 0) ∧ wx.cell? ⟨R + 1, 1, none⟩ = some (.int .i64 0) ∧ wx.cell? ⟨R + 1, 2, none⟩ = some (.int .i64 0) := by
  have h1 := heap_setCell_eq hx 0 (.slice (some ⟨g', 0, none⟩) 1 cap')
  have h2 : (w10.setCell ⟨R, 0, none⟩ (.slice (some ⟨g', 0, none⟩) 1 cap')).heap[R + 1]? = some (.cells #[.int .i64 0, .int .i64 0, .int .i64 0] 52 (0, 0)) := (heap_setCell_ne 0 _ (by omega)).trans hy
  have h3 := heap_setCell_eq (heap_setCell_eq (heap_setCell_eq h2 0 (.int .i64 0)) 1 (.int .i64 0)) 2 (.int .i64 0)
  have h4 : wx.heap[R]? = some (.cells #[.slice (some ⟨g', 0, none⟩) 1 cap'] 24 (0, 0)) := by
    rw [hwx]
    exact (heap_setCell_ne 2 _ (by omega)).trans ((heap_setCell_ne 1 _ (by omega)).trans ((heap_setCell_ne 0 _ (by omega)).trans h1))
  have h5 : wx.heap[R + 1]? = some (.cells #[.int .i64 0, .int .i64 0, .int .i64 0] 52 (0, 0)) := by rw [hwx]; exact h3
  refine ⟨?_, cellB' h4 0 rfl, cellB' h5 0 rfl, cellB' h5 1 rfl, cellB' h5 2 rfl⟩
  rw [hwx]
  exact (((((Keep.refl _ _).setCell (.inl (by simp)) _).setCell (.inl (by simp)) _).setCell (.inl (by simp)) _).setCell (.inl (by simp)) _)
set_option maxRecDepth 100000 in
set_option maxHeartbeats 2000000 in
theorem parse_text {t : ByteArray} {ws : List ByteArray} {n : Nat} {s0 s1 sc sf : ByteArray} {kc kf : Nat} {l : List FS} {j : Nat} (ht : TextOk t ws n s0 s1 sc sf kc kf l j) (w : World) (hE : ErrV w) :
    Calls Tryz.prog 19 #[.string t] w (ParseP n s0 s1 kc kf l w) := by
  have HT := Lib.hid ht
  have hts := ht.size
  have d0 : decide ((1048576 : Int) < (t.size : Int)) = false := by simpa using (by omega : (t.size : Int) ≤ 1048576)
  clear ht
  have hmf : ∀ (fn : Fn) (first cap : Array Value) (w : World), (Instr.makeFunc fn first cap).run Tryz.prog w = .ok (.func fn first cap) w := fun _ _ _ _ => rfl
  go_enter_defers Tryz.func19, Tryz.ntmps19
  go_wp2_with fail
  obtain ⟨w2, hw2⟩ : ∃ w2, w2 = ((w.alloc (Obj.cells #[Value.slice none 0 0] 24)).alloc (Obj.cells #[Value.int IntKind.i64 0, Value.int IntKind.i64 0, Value.int IntKind.i64 0] 52)) := ⟨_, rfl⟩
  have s1 : (w.alloc (Obj.cells #[Value.slice none 0 0] 24)).heap.size = w.heap.size + 1 := by simp
  have s2 : w2.heap.size = w.heap.size + 2 := by rw [hw2]; simp
  have hb2 : Below w.heap.size w w2 := by rw [hw2]; exact ((Below.refl _ _).alloc (Nat.le_refl _) _).alloc (by rw [s1]; omega) _
  have hX2 : w2.heap[w.heap.size]? = some (Obj.cells #[Value.slice none 0 0] 24 (0, 0)) := by rw [hw2, heap_alloc_lt (by rw [s1]; omega)]; exact heap_alloc_at _ _
  have hY2 : w2.heap[w.heap.size + 1]? = some (Obj.cells #[Value.int IntKind.i64 0, Value.int IntKind.i64 0, Value.int IntKind.i64 0] 52 (0, 0)) := by rw [hw2, ← s1]; exact heap_alloc_at _ _
  rw [← hw2]
  clear hw2 s1
  have hwt := words_text t hts HT.out.asc (by rw [HT.out.words]; exact HT.out.len) w2
  rw [HT.out.words] at hwt
  refine hwt.mono ?_
  clear hwt
  rintro e w3 ⟨v, rfl, hov, hb3⟩
  have hwl := HT.out.len
  have hjl := HT.out.jl
  obtain ⟨g, cp, hv, hg3, hgl, hcl⟩ : ∃ g cp, v = .slice (some ⟨g, 0, none⟩) ws.length cp ∧ g < w3.heap.size ∧ w2.heap.size ≤ g ∧ (∀ j s, ws[j]? = some s → w3.cell? ⟨g, j, none⟩ = some (.string s)) := by
    rcases hov.2 with ⟨_, h0⟩ | ⟨g, cap, cur, rfl, hbg, hgb, _⟩
    · omega
    · refine ⟨g, cap, rfl, lt_of_block hgb, hbg, fun j s hs => ?_⟩
      have := hov.cells (g := g) rfl j (.string s) (by rw [List.getElem?_map, hs]; rfl)
      rcases Nat.eq_zero_or_pos j with rfl | hp
      · simpa [Addr.add] using this
      · have hj0 : j ≠ 0 := by omega
        simpa [Addr.add, hj0] using this
  subst hv
  have HCL := Lib.hid hcl
  have HX3 := Lib.hid ((hb3.block _ (lt_of_block hX2)).trans hX2)
  have HY3 := Lib.hid ((hb3.block _ (lt_of_block hY2)).trans hY2)
  have HB3 := Lib.hid (hb2.trans (hb3.mono (by omega)))
  have hz3 := hb3.size
  clear hov hcl hb2 hb3 hX2 hY2
  go_wp2_with fail
  obtain ⟨w4, hw4⟩ : ∃ w4, w4 = w3.alloc (Obj.cells #[Value.slice (some ⟨g, 0, none⟩) ws.length cp, Value.int IntKind.i64 0, Value.int IntKind.i64 0] 80) := ⟨_, rfl⟩
  have hb4 : Below w3.heap.size w3 w4 := by rw [hw4]; exact (Below.refl _ _).alloc (Nat.le_refl _) _
  have hP4 : w4.heap[w3.heap.size]? = some (Obj.cells #[Value.slice (some ⟨g, 0, none⟩) ws.length cp, Value.int IntKind.i64 0, Value.int IntKind.i64 0] 80 (0, 0)) := by rw [hw4]; exact heap_alloc_at _ _
  have hs4 : w4.heap.size = w3.heap.size + 1 := by rw [hw4]; simp
  rw [← hw4]
  clear hw4
  have hps : PS w w4 w3.heap.size g cp ws 0 0 := ⟨HB3.out.trans (hb4.mono (by omega)), hP4, fun j s hs => (hb4.cell (p := ⟨g, j, none⟩) hg3).trans (HCL.out j s hs), by omega, by omega, by omega, by omega, by omega, by omega⟩
  have hx4 := (hb4.block _ (lt_of_block HX3.out)).trans HX3.out
  have hy4 := (hb4.block _ (lt_of_block HY3.out)).trans HY3.out
  have HPS := Lib.hid (hps.on (Below.refl w4.heap.size w4).drew)
  have HPS4 := Lib.hid hps
  have HX4 := Lib.hid hx4
  have HY4 := Lib.hid hy4
  have hE' := Lib.hid hE
  clear hps hx4 hy4 hP4 hb4 HX3 HY3 HCL hE
  generalize hP : w3.heap.size = P at HPS HPS4 hs4 hg3 hz3 ⊢
  have hxl := lt_of_block HX4.out
  have hyl := lt_of_block HY4.out
  go_loopw [] (fun wr => wr = w4) (fun _ => 0)
  case atStart => rfl
  case round =>
    subst hrel
    have x0 := cellB' HX4.out 0 rfl
    go_upto_region 5 with fail
    first | go_region_law (first
      | (go_simp; go_at_call 33; refine (function_any HPS.out HT.out.head (by omega) HT.out.b0 (HT.out.chain w hE'.out _ _ _) HT.out.b1 HT.out.ll).mono ?_; rintro e w5 ⟨⟨vf, rfl, hfv⟩, hk, hps⟩; obtain ⟨G0, G1, A3, c3, A5, c5, rfl, hfr⟩ := id hfv; have hx5 := (hk.block w.heap.size hxl (by simp; omega)).trans HX4.out; have x0' := cellB' hx5 0 rfl; have hx5l := lt_of_block hx5; have HX5 := Lib.hid hx5; have HFV := Lib.hid hfv; have HK := Lib.hid hk; have HPS5 := Lib.hid hps; clear hx5 hfv hk hps hfr; go_simp)
      | (refine step_append_one rfl (.tmp 16) (.tmp 19) rfl Tryz.underlying22 Tryz.infoFu rfl (by decide) (by decide) wr.heap.size (.slice none 0 0) 0 [] rfl (World.ownsRow_nil _ _ _ _) ⟨w5.heap.size, 0, none⟩ [.slice (some ⟨G0, 0, none⟩) 1 1, .slice (some ⟨G1, 0, none⟩) 1 1, .int .i64 kc, .slice A3 1 c3, .slice none 0 0, .slice A5 l.length c5] rfl rfl (news_at w5 _ _) (by intro u hu; simp only [List.mem_cons, List.mem_nil_iff, or_false] at hu; rcases hu with rfl | rfl | rfl | rfl | rfl | rfl <;> rfl) (by omega) (by have := HK.out.size; simp at this ⊢; omega) ?_; intro v' w' hown' hgr hfr; obtain ⟨g', cap', hv'⟩ := ownsRow_succ hown'; subst hv'; have hbF := (hgr.block w.heap.size (by have := HK.out.size; simp at this ⊢; omega) (by simp [Value.ownBlock])).trans ((heap_alloc_lt (by have := HK.out.size; simp at this ⊢; omega)).trans HX5.out); have z3 := frozB hbF 0; have l3 := cellB' hbF 0 rfl; have hFl' := lt_of_block hbF; have HG := Lib.hid hgr; have HO := Lib.hid hown'; have HBF := Lib.hid hbF; clear hgr hown' hfr hbF)) | fail
    all_goals
      obtain ⟨hp9, hx9, hy9, hf9, ho9⟩ := parse_mid (v := .agg #[.slice (some ⟨G0, 0, none⟩) 1 1, .slice (some ⟨G1, 0, none⟩) 1 1, .int .i64 kc, .slice A3 1 c3, .slice none 0 0, .slice A5 l.length c5]) HPS4.out.below (by omega) (by omega) (by omega) (by omega) HK.out HPS5.out HX4.out HY4.out HFV.out HG.out HO.out
      generalize w'.setCell ⟨w.heap.size, 0, none⟩ (.slice (some ⟨g', 0, none⟩) (0 + 1) cap') = w9 at hp9 hx9 hy9 hf9 ho9 ⊢
      have HP9 := Lib.hid hp9
      have HX9 := Lib.hid hx9
      have HY9 := Lib.hid hy9
      have HF9 := Lib.hid hf9
      have HO9 := Lib.hid ho9
      have p1 := hp9.c1
      have p0 := hp9.c0
      have hpl9 := lt_of_block hp9.hP
      have x9 := cellB' hx9 0 rfl
      have xz9 := frozB hx9 0
      have hxl9 := lt_of_block hx9
      have y9 := cellB' hy9 0 rfl
      have hyl9 := lt_of_block hy9
      have dj : (((j + 1 : Nat) : Int) == (ws.length : Int)) = true := by simp [hjl]
      clear hp9 hx9 hy9 hf9 ho9 HG HO HBF HK HPS5 HFV
      go_upto_region 6 with fail
      go_quiet (fail)
      have hb10 : Below w9.heap.size w9 (w9.drewN nq) := Below.drewN' (Below.refl _ _) nq
      have hx10 := (hb10.block _ hxl9).trans HX9.out
      have hy10 := (hb10.block _ hyl9).trans HY9.out
      have HP10 := Lib.hid (HP9.out.on hb10)
      have HF10 := Lib.hid (HF9.out.keep (S := []) (Keep.of_below hb10) (fun x hx => by cases hx))
      have HO10 := Lib.hid (own_keep (S := []) HO9.out (Keep.of_below hb10) (fun x hx => by cases hx))
      clear hb10 x9 xz9 y9 hxl9 hyl9 HP9 HF9 HO9 p0 p1 hpl9
      generalize w9.drewN nq = w10 at hx10 hy10 HP10 HF10 HO10 ⊢
      have HX10 := Lib.hid hx10
      have HY10 := Lib.hid hy10
      have x10 := cellB' hx10 0 rfl
      have xz10 := frozB hx10 0
      have hxl10 := lt_of_block hx10
      have y10 := cellB' hy10 0 rfl
      have y11 := cellB' hy10 1 rfl
      have y12 := cellB' hy10 2 rfl
      have yz10 := frozB hy10 0
      have yz11 := frozB hy10 1
      have yz12 := frozB hy10 2
      have hyl10 := lt_of_block hy10
      clear hx10 hy10
      go_wp2_with fail
      obtain ⟨wx, hwx⟩ : ∃ wx, wx = ((((w10.setCell ⟨w.heap.size, 0, none⟩ (.slice (some ⟨g', 0, none⟩) 1 cap')).setCell ⟨w.heap.size + 1, 0, none⟩ (.int .i64 0)).setCell ⟨w.heap.size + 1, 1, none⟩ (.int .i64 0)).setCell ⟨w.heap.size + 1, 2, none⟩ (.int .i64 0)) := ⟨_, rfl⟩
      rw [← hwx]
      obtain ⟨hkx, u0, u1, u2, u3⟩ := parse_out HX10.out HY10.out wx hwx
      clear hwx x10 xz10 y10 y11 y12 yz10 yz11 yz12
      have hb0 := HP10.out.below
      have hS2 : ∀ x, x ∈ [w.heap.size, w.heap.size + 1] → w.heap.size ≤ x ∧ x < w.heap.size + 2 := fun x hx => by simp at hx; omega
      refine leaves_cons (f := 31) (args := #[.pointer (some ⟨w.heap.size, 0, none⟩), .pointer (some ⟨w.heap.size + 1, 0, none⟩)]) (by simp) (by simp [go_sem]) ?_
      refine (parse_catch _ _ _).mono ?_
      rintro e u' w11 ⟨rfl, rfl, rfl⟩
      simp [Leaves, settle, results, Tryz.results19, go_sem, u0, u1, u2, u3]
      exact ⟨g', _, cap', _, rfl, rfl, (HF10.out.keep hkx (fun x hx => by have := hS2 x hx; omega)).low (by omega), own_weaken (own_keep HO10.out hkx (fun x hx => by have := hS2 x hx; omega)) (by omega), hkx.below hb0 (by omega) (fun x hx => (hS2 x hx).1)⟩
end Go.Proofs.YtoaajpppbjaomaaGreatDoor
/- The fixed text of 'lives' (printed by wip/tools/mkLp.py). -/
namespace Go.Proofs.YtoaajpppbjaomaaGreatDoor
open Go.RowKit
def sumT : ByteArray := ⟨#[102, 117, 110, 32, 40, 32, 120, 48, 32, 41, 32, 61, 32, 40, 32, 120, 49, 32, 41, 32, 99, 101, 108, 108, 115, 32, 50, 32, 102, 108, 97, 103, 115, 32, 123, 32, 49, 32, 59, 32, 125, 32, 112, 97, 114, 116, 115, 32, 123, 32, 125, 32, 123, 32, 120, 49, 32, 61, 32, 40, 32, 105, 102, 32, 109, 32, 91, 32, 49, 32, 93, 32, 116, 104, 101, 110, 32, 48, 32, 101, 108, 115, 101, 32, 109, 32, 91, 32, 48, 32, 93, 32, 41, 32, 59, 32, 120, 50, 32, 61, 32, 40, 32, 120, 49, 32, 43, 32, 120, 48, 32, 41, 32, 59, 32, 109, 32, 91, 32, 49, 32, 93, 32, 61, 32, 48, 32, 59, 32, 109, 32, 91, 32, 48, 32, 93, 32, 61, 32, 120, 50, 32, 59, 32, 125]⟩
def sumWs : List ByteArray := [⟨#[102, 117, 110]⟩, ⟨#[40]⟩, ⟨#[120, 48]⟩, ⟨#[41]⟩, ⟨#[61]⟩, ⟨#[40]⟩, ⟨#[120, 49]⟩, ⟨#[41]⟩, ⟨#[99, 101, 108, 108, 115]⟩, ⟨#[50]⟩, ⟨#[102, 108, 97, 103, 115]⟩, ⟨#[123]⟩, ⟨#[49]⟩, ⟨#[59]⟩, ⟨#[125]⟩, ⟨#[112, 97, 114, 116, 115]⟩, ⟨#[123]⟩, ⟨#[125]⟩, ⟨#[123]⟩, ⟨#[120, 49]⟩, ⟨#[61]⟩, ⟨#[40]⟩, ⟨#[105, 102]⟩, ⟨#[109]⟩, ⟨#[91]⟩, ⟨#[49]⟩, ⟨#[93]⟩, ⟨#[116, 104, 101, 110]⟩, ⟨#[48]⟩, ⟨#[101, 108, 115, 101]⟩, ⟨#[109]⟩, ⟨#[91]⟩, ⟨#[48]⟩, ⟨#[93]⟩, ⟨#[41]⟩, ⟨#[59]⟩, ⟨#[120, 50]⟩, ⟨#[61]⟩, ⟨#[40]⟩, ⟨#[120, 49]⟩, ⟨#[43]⟩, ⟨#[120, 48]⟩, ⟨#[41]⟩, ⟨#[59]⟩, ⟨#[109]⟩, ⟨#[91]⟩, ⟨#[49]⟩, ⟨#[93]⟩, ⟨#[61]⟩, ⟨#[48]⟩, ⟨#[59]⟩, ⟨#[109]⟩, ⟨#[91]⟩, ⟨#[48]⟩, ⟨#[93]⟩, ⟨#[61]⟩, ⟨#[120, 50]⟩, ⟨#[59]⟩, ⟨#[125]⟩]
def xNum (i : Int) : XE := .mk 1 ⟨#[]⟩ i []
def xMem (i : Int) : XE := .mk 16 ⟨#[]⟩ i []
def xVar (s : ByteArray) : XE := .mk 4 s 0 []
def sum1 : FS := .mk 1 ⟨#[120, 49]⟩ 0 0 [] (.mk 7 ⟨#[]⟩ 0 [xMem 1, xNum 0, xMem 0]) [] []
def sum2 : FS := .mk 1 ⟨#[120, 50]⟩ 0 0 [] (.mk 6 ⟨#[43]⟩ 0 [xVar ⟨#[120, 49]⟩, xVar ⟨#[120, 48]⟩]) [] []
def sum3 : FS := .mk 2 ⟨#[]⟩ 1 0 [] (xNum 0) [] []
def sum4 : FS := .mk 2 ⟨#[]⟩ 0 0 [] (xVar ⟨#[120, 50]⟩) [] []
def sumB : List FS := [sum1, sum2, sum3, sum4]
def sumFN : FN := ⟨[⟨#[120, 48]⟩], [⟨#[120, 49]⟩], 2, [1], [], sumB⟩
theorem sum_words : fwGo sumT sumT.data.toList 0 (-1) = sumWs := by kernel_rfl
theorem dg0 : (⟨(Lib.decDigits 0).toArray⟩ : ByteArray) = ⟨#[48]⟩ := by simp [Lib.decDigits]
theorem dg1 : (⟨(Lib.decDigits 1).toArray⟩ : ByteArray) = ⟨#[49]⟩ := by simp [Lib.decDigits]
theorem dg2 : (⟨(Lib.decDigits 2).toArray⟩ : ByteArray) = ⟨#[50]⟩ := by simp [Lib.decDigits]
theorem sum_head : HeadW sumWs 0 ⟨#[120, 48]⟩ ⟨#[120, 49]⟩ ⟨#[50]⟩ ⟨#[49]⟩ 2 1 where
  t0 := rfl
  t1 := rfl
  t2 := rfl
  t3 := rfl
  t4 := rfl
  t5 := rfl
  t6 := rfl
  t7 := rfl
  t8 := rfl
  t9 := rfl
  t10 := rfl
  t11 := rfl
  t12 := rfl
  t13 := rfl
  t14 := rfl
  t15 := rfl
  t16 := rfl
  t17 := rfl
  n0 := isNm_48
  n1 := isNm_49
  m0 := tl_lit (by decide)
  m1 := tl_lit (by decide)
  mf := by rw [ByteArray.toList_eq]; decide
  kcl := by omega
  kfl := by omega
  pc := by decide
  pf := by decide
  dc := dg2
  df := dg1
  zc := by decide
  zf := by decide
theorem ec_of {W : World} {P B cap : Nat} {ws : List ByteArray} {i j op n : Nat} {x : XE} (hE : ErrV W) (ho : op < 100) (hc : ExprCase W P B cap ws i op n x j) : EC W P B cap ws i j op (n + 1) x := fun _ h => expr_core hE h ho hc
section
variable {W : World} (hE : ErrV W) (P B cap : Nat)
include hE
theorem sum_e1 : EC W P B cap sumWs 21 35 1 2 (.mk 7 ⟨#[]⟩ 0 [xMem 1, xNum 0, xMem 0]) :=
  ec_of (n := 1) hE (by omega) (.par _ 34 rfl rfl (fun w h => inner_iff (j := 27) (k := 29) (l := 34) h rfl
    (ec_of (n := 0) (i := 23) hE (by omega) (.mem ⟨#[49]⟩ 1 rfl rfl rfl rfl (by omega) (by decide) dg1 (by decide)) : EC W P B cap sumWs 23 27 2 1 (xMem 1)) rfl
    (ec_of (n := 0) (i := 28) hE (by omega) (.num ⟨#[48]⟩ 0 rfl (by omega) (by decide) dg0 (by decide)) : EC W P B cap sumWs 28 29 2 1 (xNum 0)) rfl
    (ec_of (n := 0) (i := 30) hE (by omega) (.mem ⟨#[48]⟩ 0 rfl rfl rfl rfl (by omega) (by decide) dg0 (by decide)) : EC W P B cap sumWs 30 34 2 1 (xMem 0))))
theorem sum_e2 : EC W P B cap sumWs 38 43 1 2 (.mk 6 ⟨#[43]⟩ 0 [xVar ⟨#[120, 49]⟩, xVar ⟨#[120, 48]⟩]) :=
  ec_of (n := 1) hE (by omega) (.par _ 42 rfl rfl (fun w h => inner_bin (j := 40) (k := 42) h (t := ⟨#[120, 49]⟩) rfl ⟨by rw [ByteArray.toList_eq]; decide, by rw [ByteArray.toList_eq]; decide, by rw [ByteArray.toList_eq]; decide⟩
    (ec_of (n := 0) (i := 39) hE (by omega) (.var ⟨#[120, 49]⟩ rfl isNm_49 (by decide) (by decide) (tl_lit (by decide)) (tl_lit (by decide))) : EC W P B cap sumWs 39 40 2 1 (xVar ⟨#[120, 49]⟩)) rfl
    (ec_of (n := 0) (i := 41) hE (by omega) (.var ⟨#[120, 48]⟩ rfl isNm_48 (by decide) (by decide) (tl_lit (by decide)) (tl_lit (by decide))) : EC W P B cap sumWs 41 42 2 1 (xVar ⟨#[120, 48]⟩))))
theorem sum_s1 : SC W P B cap sumWs 19 36 1 2 sum1 := fun w h => stmt_core (j := 35) h (.set ⟨#[120, 49]⟩ _ 35 rfl isNm_49 (by decide) (tl_lit (by decide)) (tl_lit (by decide)) (tl_lit (by decide)) (by rw [ByteArray.toList_eq]; decide) rfl (sum_e1 hE P B cap)) rfl
theorem sum_s2 : SC W P B cap sumWs 36 44 1 2 sum2 := fun w h => stmt_core (j := 43) h (.set ⟨#[120, 50]⟩ _ 43 rfl isNm_50 (by decide) (tl_lit (by decide)) (tl_lit (by decide)) (tl_lit (by decide)) (by rw [ByteArray.toList_eq]; decide) rfl (sum_e2 hE P B cap)) rfl
theorem sum_s3 : SC W P B cap sumWs 44 51 1 2 sum3 := fun w h => stmt_core (j := 50) h (.keep ⟨#[49]⟩ 1 _ 50 rfl rfl rfl rfl (by omega) (by decide) dg1 (by decide) rfl (ec_of (n := 1) (i := 49) hE (by omega) (.num ⟨#[48]⟩ 0 rfl (by omega) (by decide) dg0 (by decide)) : EC W P B cap sumWs 49 50 1 2 (xNum 0))) rfl
theorem sum_s4 : SC W P B cap sumWs 51 58 1 2 sum4 := fun w h => stmt_core (j := 57) h (.keep ⟨#[48]⟩ 0 _ 57 rfl rfl rfl rfl (by omega) (by decide) dg0 (by decide) rfl (ec_of (n := 1) (i := 56) hE (by omega) (.var ⟨#[120, 50]⟩ rfl isNm_50 (by decide) (by decide) (tl_lit (by decide)) (tl_lit (by decide))) : EC W P B cap sumWs 56 57 1 2 (xVar ⟨#[120, 50]⟩))) rfl
theorem sum_chain : Chain W P B cap sumWs 1 2 19 sumB 58 :=
  .cons 19 36 58 sum1 _ ⟨#[120, 49]⟩ rfl (by rw [ByteArray.toList_eq]; decide) (by omega) (sum_s1 hE P B cap)
    (.cons 36 44 58 sum2 _ ⟨#[120, 50]⟩ rfl (by rw [ByteArray.toList_eq]; decide) (by omega) (sum_s2 hE P B cap)
      (.cons 44 51 58 sum3 _ ⟨#[109]⟩ rfl (by rw [ByteArray.toList_eq]; decide) (by omega) (sum_s3 hE P B cap)
        (.cons 51 58 58 sum4 _ ⟨#[109]⟩ rfl (by rw [ByteArray.toList_eq]; decide) (by omega) (sum_s4 hE P B cap) (.nil 58))))
end
theorem sum_ok : TextOk sumT sumWs 2 ⟨#[120, 48]⟩ ⟨#[120, 49]⟩ ⟨#[50]⟩ ⟨#[49]⟩ 2 1 sumB 58 where
  size := Nat.le_of_ble_eq_true (by kernel_rfl)
  asc := fun c hc => by
    have h : sumT.data.toList.all (fun c => decide (c.toNat < 128)) = true := by kernel_rfl
    simpa using List.all_eq_true.1 h c hc
  words := sum_words
  len := Nat.le_of_ble_eq_true (by kernel_rfl)
  head := sum_head
  b0 := rfl
  b1 := rfl
  jl := rfl
  ll := by decide
  chain := fun _ hE P B cap => sum_chain hE P B cap
end Go.Proofs.YtoaajpppbjaomaaGreatDoor
/- law 21's 'lives': what was parsed, as the runner sees it; the spec's numbers. -/
namespace Go.Proofs.YtoaajpppbjaomaaGreatDoor
open Go.RowKit
theorem repV_own {α : Type} {R : α → List Value → Prop} {sz : Nat} {w : World} {lo : Nat} {e : TypeId} {v : Value} {xs : List α} {css : List (List Value)} (h : w.ownsRow lo e sz v xs.length css.flatten)
    (hl : css.length = xs.length) (hsz : ∀ c, c ∈ css → c.length = sz) (hR : ∀ (j : Nat) x cs, xs[j]? = some x → css[j]? = some cs → R x cs) (hn : xs.length ≤ 1048576) : RepV R sz w v xs := by
  rcases h.2 with ⟨rfl, h0⟩ | ⟨g, cap, cur, rfl, _, hg, hnc, hcm, _⟩
  · have : xs = [] := List.length_eq_zero_iff.1 h0
    subst this
    exact repV_nil _ _ _
  · refine ⟨hn, _, _, rfl, hnc, by unfold maxLen at hcm; omega, fun _ => ⟨g, 0, rfl, lt_of_block hg, fun j x hj => ?_⟩⟩
    have hjl : j < css.length := by rw [hl]; exact (List.getElem?_eq_some_iff.1 hj).1
    have hgj := List.getElem?_eq_getElem hjl
    refine ⟨css[j], hsz _ (List.getElem_mem _), hR j x _ hj hgj, fun i u hu => ?_⟩
    have := h.cells (g := g) rfl (j * sz + i) u (flat_get css j i _ u hsz hgj hu)
    show w.cell? ⟨g, 0 + j * sz + i, none⟩ = some u
    rw [Nat.zero_add]
    generalize j * sz + i = k at this ⊢
    rcases Nat.eq_zero_or_pos k with rfl | hp
    · simpa [Addr.add] using this
    · have hj0 : k ≠ 0 := by omega
      simpa [Addr.add, hj0] using this
theorem repV_blk1 {α : Type} {R : α → List Value → Prop} {w : World} {G : Nat} {x : α} {u : Value} {t : TypeId} {z : Nat × Nat} (h : w.heap[G]? = some (.cells #[u] t z)) (hR : R x [u]) : RepV R 1 w (.slice (some ⟨G, 0, none⟩) 1 1) [x] := by
  refine ⟨by simp, _, _, rfl, by simp, by omega, fun _ => ⟨G, 0, rfl, lt_of_block h, fun j y hj => ?_⟩⟩
  have hj0 : j = 0 := by
    rcases Nat.eq_zero_or_pos j with h | h
    · exact h
    · rw [List.getElem?_eq_none (by simp; omega)] at hj; cases hj
  subst hj0
  simp at hj
  subst hj
  refine ⟨[u], rfl, hR, fun i v hv => ?_⟩
  have hi0 : i = 0 := by
    rcases Nat.eq_zero_or_pos i with h | h
    · exact h
    · rw [List.getElem?_eq_none (by simp; omega)] at hv; cases hv
  subst hi0
  simp at hv
  subst hv
  exact cellB' h 0 rfl
theorem fun_rep {w : World} {lo n : Nat} {s0 s1 : ByteArray} {kc kf : Nat} {l : List FS} {A : Array Value} (h : FunV w lo n s0 s1 kc kf l (.agg A)) (h0 : s0.size ≤ 1048576) (h1 : s1.size ≤ 1048576) (hc : kc < 100) (hf : kf < 100) (hl : l.length ≤ 1000) :
    A.toList.length = 6 ∧ RepF w (n + 1) ⟨[s0], [s1], kc, [(kf : Int)], [], l⟩ A.toList := by
  obtain ⟨G0, G1, A3, c3, A5, c5, h1', h2, h3, h4, h5, h6, css, g1, g2, g3, g4⟩ := h
  injection h1' with h1'
  subst h1'
  refine ⟨rfl, _, _, _, _, _, rfl, ?_, ?_, ?_, ?_, ?_, ?_⟩
  · show I64 (kc : Int); unfold I64; omega
  · exact repV_blk1 h2 ⟨rfl, h0⟩
  · exact repV_blk1 h3 ⟨rfl, h1⟩
  · refine repV_own (R := RInt) (sz := 1) (xs := [(kf : Int)]) (css := [[.int .i64 kf]]) h6 rfl (by simp) (fun j x cs hj hj' => ?_) (by simp)
    have hj0 : j = 0 := by
      rcases Nat.eq_zero_or_pos j with h | h
      · exact h
      · rw [List.getElem?_eq_none (by simp; omega)] at hj; cases hj
    subst hj0
    simp at hj hj'
    subst hj hj'
    exact ⟨rfl, by unfold I64; omega⟩
  · exact repV_nil _ _ _
  · exact repV_own g1 g2 g3 (fun j x cs a b => (g4 j x cs a b).s) (by show l.length ≤ _; omega)
theorem sum_parse (w : World) (hE : ErrV w) : Calls Tryz.prog 19 #[.string sumT] w (fun e w' => ∃ v, e = .returned (.tuple #[.agg #[v], .agg #[.int .i64 0, .int .i64 0, .int .i64 0]]) ∧ RepV (RepF w' 3) 6 w' v [sumFN] ∧ Below w.heap.size w w' ∧ IsSl v) := by
  refine (parse_text sum_ok w hE).mono ?_
  rintro e w' ⟨G, fv, c, A, rfl, rfl, hf, ho, hb⟩
  obtain ⟨hA, hR⟩ := fun_rep hf (by decide) (by decide) (by omega) (by omega) (by decide)
  refine ⟨_, rfl, repV_own (css := [A.toList]) (by simpa using ho) rfl (by simpa using hA) (fun j x cs hj hj' => ?_) (by simp), hb, ⟨_, _, _, rfl⟩⟩
  have hj0 : j = 0 := by
    rcases Nat.eq_zero_or_pos j with h | h
    · exact h
    · rw [List.getElem?_eq_none (by simp; omega)] at hj; cases hj
  subst hj0
  simp at hj hj'
  subst hj hj'
  exact hR
theorem sum_right : rightF [sumFN] = true := by kernel_rfl
theorem sum_heavy : ¬ 1000 < heavyV [sumFN] := by decide
theorem sum_new : newF [sumFN] = ⟨[none, some 1], false, 0⟩ := by kernel_rfl
theorem sum_step1 : stepF [sumFN] ⟨[none, some 1], false, 0⟩ [1] = (⟨[some 1, some 0], false, 4⟩, [0], 0) := by kernel_rfl
theorem sum_step2 : stepF [sumFN] ⟨[some 1, some 0], false, 4⟩ [2] = (⟨[some 3, some 0], false, 4⟩, [1], 0) := by kernel_rfl
theorem sum_step3 : stepF [sumFN] ⟨[some 3, some 0], false, 4⟩ [3] = (⟨[some 6, some 0], false, 4⟩, [3], 0) := by kernel_rfl
end Go.Proofs.YtoaajpppbjaomaaGreatDoor
/- law 21's 'lives'. -/
namespace Go.Proofs.YtoaajpppbjaomaaGreatDoor
open Go.RowKit
structure StepOne (W : World) (R M : Nat) (fv : Value) (mem' : Mem) (cnt' out : Int) (w : World) (e : Ending) (w' : World) : Prop where
  ret : ∃ g c, e = .returned (.tuple #[.slice (some ⟨g, 0, none⟩) 1 c, .int .i64 0]) ∧ w'.cell? ⟨g, 0, none⟩ = some (.int .i64 out) ∧ w.heap.size ≤ g
  keep : Keep [R, M] w w'
  st : MemSt W w' R M fv mem' false cnt'
  memI : ∀ v, some v ∈ mem' → I64 v
theorem step_one {W w : World} {R M : Nat} {fv : Value} (hrep : RepV (RepF W 3) 6 W fv [sumFN]) {mem mem' : Mem} {cnt cnt' k out : Int} (h : MemSt W w R M fv mem false cnt) (hmI : ∀ v, some v ∈ mem → I64 v) (hk : I64 k) (hs : stepF [sumFN] ⟨mem, false, cnt⟩ [k] = (⟨mem', false, cnt'⟩, [out], 0)) :
    Calls Tryz.prog 12 #[.pointer (some ⟨R, 0, none⟩), .slice (some ⟨w.heap.size, 0, none⟩) 1 1] (w.alloc (Obj.cells #[Value.int .i64 k] 2)) (StepOne W R M fv mem' cnt' out w) := by
  have hb : Below w.heap.size w (w.alloc (Obj.cells #[Value.int .i64 k] 2)) := (Below.refl _ _).alloc (Nat.le_refl _) _
  have hRl := lt_of_block h.hR
  have hMl := lt_of_block h.hM
  have hin : Ints (w.alloc (Obj.cells #[Value.int .i64 k] 2)) (.slice (some ⟨w.heap.size, 0, none⟩) 1 1) [k] := by
    refine ⟨_, _, rfl, fun j x hj => ?_⟩
    have hj0 : j = 0 := by
      rcases Nat.eq_zero_or_pos j with h | h
      · exact h
      · rw [List.getElem?_eq_none (by simp; omega)] at hj; cases hj
    subst hj0
    simp at hj
    subst hj
    exact ⟨_, 0, rfl, by simp, cellB' (heap_alloc_at w _) 0 rfl⟩
  refine (run_step hrep (rightP_of sum_right) (by decide) (r := ⟨mem, false, cnt⟩) (h.later hb) (fun _ => hmI) hin (fun v hv => by simp at hv; subst hv; exact hk) (by simp) (fun x hx o n c _ e => by
    injection e with e1 _ _
    injection e1 with e1
    injection e1 with e1 _ _
    simp at hx
    omega)).mono ?_
  rintro e w' ⟨⟨v, rfl, hown⟩, hkeep, hst, hmI'⟩
  rw [hs] at hown hst hmI' ⊢
  refine ⟨?_, (Keep.of_below hb).trans hkeep, hst, hmI' rfl⟩
  rcases hown.2 with ⟨_, h0⟩ | ⟨g, cap, cur, rfl, hbg, _⟩
  · simp at h0
  · have := hown.cells (g := g) rfl 0 (.int .i64 out) rfl
    exact ⟨g, cap, rfl, by simpa [Addr.add] using this, by simp at hbg; omega⟩
set_option maxRecDepth 100000 in
set_option maxHeartbeats 2000000 in
theorem lives_any (w : World) (hE : ErrV w) : Calls Tryz.prog 6 #[] w (RetB (.bool true) w) := by
  go_enter Tryz.func6, Tryz.ntmps6
  go_wp2_with fail
  refine (sum_parse w hE).mono ?_
  rintro e w1 ⟨v, rfl, hrep, hb1, A, l, c, rfl⟩
  have HREP := Lib.hid hrep
  have HB1 := Lib.hid hb1
  have hE' := Lib.hid hE
  clear hrep hb1 hE
  go_wp2_with fail
  obtain ⟨w2, hw2⟩ : ∃ w2, w2 = (w1.alloc (Obj.cells #[Value.slice A l c] 24)).alloc (Obj.cells #[Value.int IntKind.i64 0, Value.int IntKind.i64 0, Value.int IntKind.i64 0] 52) := ⟨_, rfl⟩
  have hb2 : Below w1.heap.size w1 w2 := by rw [hw2]; exact ((Below.refl _ _).alloc (Nat.le_refl _) _).alloc (by simp) _
  rw [← hw2]
  clear hw2
  have hN := new_any w2 hb2 HREP.out
  refine hN.mono ?_
  clear hN
  intro e w3 hP
  obtain ⟨R, M, rfl, hRg, hMg, hst⟩ := hP.yes sum_right sum_heavy
  rw [sum_new] at hst
  have HB3 := Lib.hid ((HB1.out.trans (hb2.mono HB1.out.size)).trans (hP.below.mono (by have := HB1.out.size; have := hb2.size; omega)))
  have HST := Lib.hid hst
  have hRl := lt_of_block hst.hR
  clear hP hst hb2
  go_wp2_with fail
  refine (cells_any HST.out).mono ?_
  rintro e w4 ⟨rfl, rfl⟩
  go_wp2_with fail
  refine (defined_any HST.out).mono ?_
  rintro e w5 ⟨rfl, hb5⟩
  have H5 := Lib.hid (HST.out.later hb5)
  have HB5 := Lib.hid (HB3.out.trans (hb5.mono HB3.out.size))
  clear hb5
  rw [show ((definedF ({ mem := [none, some 1], trapped := false, count := 0 } : RS).mem : Nat) : Int) = 1 from rfl]
  go_wp2_with fail
  refine (step_one HREP.out H5.out (by intro v hv; simp at hv; subst hv; unfold I64; omega) (by unfold I64; omega) sum_step1).mono ?_
  rintro e w6 ⟨⟨g1, c1, rfl, hg1, hlt1⟩, hk6, hst6, hm6⟩
  have HST6 := Lib.hid hst6
  have HM6 := Lib.hid hm6
  have HK6 := Lib.hid hk6
  have hgl1 := World.block_lt_of_cell? w6 _ hg1
  have HG1 := Lib.hid hg1
  clear hk6 hst6 hm6 hg1
  go_wp2_with fail
  refine (step_one HREP.out HST6.out HM6.out (by unfold I64; omega) sum_step2).mono ?_
  rintro e w7 ⟨⟨g2, c2, rfl, hg2, hlt2⟩, hk7, hst7, hm7⟩
  have HST7 := Lib.hid hst7
  have HM7 := Lib.hid hm7
  have HK7 := Lib.hid hk7
  have hgl2 := World.block_lt_of_cell? w7 _ hg2
  have HG2 := Lib.hid hg2
  clear hk7 hst7 hm7 hg2
  go_wp2_with fail
  refine (step_one HREP.out HST7.out HM7.out (by unfold I64; omega) sum_step3).mono ?_
  rintro e w8 ⟨⟨g3, c3, rfl, hg3, hlt3⟩, hk8, hst8, hm8⟩
  have HST8 := Lib.hid hst8
  have HK8 := Lib.hid hk8
  have hgl3 := World.block_lt_of_cell? w8 _ hg3
  have hR5 := lt_of_block H5.out.hR
  have hM5 := lt_of_block H5.out.hM
  have hg1' := (World.cell?_of_block (w := w6) ((HK7.out.trans hk8).block g1 hgl1 (by simp; omega))).trans HG1.out
  have hg2' := (World.cell?_of_block (w := w7) (hk8.block g2 hgl2 (by simp; omega))).trans HG2.out
  have hz7 := HK7.out.size
  have hz8 := hk8.size
  simp only at hgl1 hgl2 hgl3
  have hl1 : g1 < w8.heap.size := by omega
  have hl2 : g2 < w8.heap.size := by omega
  clear hk8 hst8 hm8
  go_wp2_with fail
  refine (count_any HST8.out).mono ?_
  rintro e w9 ⟨rfl, rfl⟩
  go_wp2_with fail
  refine (defined_any HST8.out).mono ?_
  rintro e w10 ⟨rfl, hb10⟩
  have HB10 := Lib.hid hb10
  clear hb10
  rw [show ((definedF [some 6, some 0] : Nat) : Int) = 2 from rfl]
  go_wp2_with fail
  go_ret
  have hz5 := HB5.out.size
  have hz1 := HB1.out.size
  have hz6 := HK6.out.size
  have kk := (HK6.out.trans HK7.out).trans HK8.out
  have hb9 := kk.below HB5.out (by omega) (fun x hx => by
    have := HST.out.geR
    have := HST.out.geM
    simp at hx
    omega)
  exact ⟨rfl, hb9.trans (HB10.out.mono (by omega))⟩
end Go.Proofs.YtoaajpppbjaomaaGreatDoor
/- The reference's calls: are all functions that statements name below k? -/
namespace Go.Proofs.YtoaajpppbjaomaaGreatDoor
open Go.RowKit
theorem callsL_no {l : List FS} {k : Int} {j : Nat} {s : FS} (hj : l[j]? = some s) (h : callsS s k = false) : callsL l k = false := by
  rw [← Bool.not_eq_true]
  intro hh
  rw [callsL_at hh hj] at h
  cases h
theorem callsL_yes {k : Int} : ∀ {l : List FS}, (∀ (j : Nat) s, l[j]? = some s → callsS s k = true) → callsL l k = true
  | [], _ => rfl
  | a :: r, h => by
    simp only [callsL, Bool.and_eq_true]
    exact ⟨h 0 a rfl, callsL_yes (fun j s hj => h (j + 1) s (by simpa using hj))⟩
theorem callsAs_no {l : List FA} {k : Int} {j : Nat} {a : FA} (hj : l[j]? = some a) (h : callsL a.body k = false) : callsAs l k = false := by
  rw [← Bool.not_eq_true]
  intro hh
  rw [callsAs_at hh hj] at h
  cases h
theorem callsAs_yes {k : Int} : ∀ {l : List FA}, (∀ (j : Nat) a, l[j]? = some a → callsL a.body k = true) → callsAs l k = true
  | [], _ => rfl
  | a :: r, h => by
    simp only [callsAs, Bool.and_eq_true]
    refine ⟨?_, callsAs_yes (fun j s hj => h (j + 1) s (by simpa using hj))⟩
    have := h 0 a rfl
    cases a
    exact this
def CallsC (W : World) (n : Nat) : Prop := ∀ (l : List FS) (A : Option Addr) (c : Nat) (k : Int) (w : World), Below W.heap.size W w → RepV (RepS W n) 12 W (.slice A l.length c) l →
  Calls Tryz.prog 34 #[.slice A l.length c, .int .i64 k] w (RetB (.bool (callsL l k)) w)
def CRel (k : Int) (l : List FS) (w : World) (i : Value) (wr : World) : Prop :=
  ∃ j : Nat, j ≤ l.length ∧ i = .int .i64 j ∧ (∀ (i : Nat) s, i < j → l[i]? = some s → callsS s k = true) ∧ Below w.heap.size w wr
def CARel (k : Int) (l : List FA) (w w1 : World) (i : Value) (wr : World) : Prop :=
  ∃ j : Nat, j ≤ l.length ∧ i = .int .i64 j ∧ (∀ (i : Nat) a, i < j → l[i]? = some a → callsL a.body k = true) ∧ Below w.heap.size w wr ∧ Below w1.heap.size w1 wr
set_option maxRecDepth 100000 in
set_option maxHeartbeats 1000000 in
theorem calls_core {W : World} {n : Nat} (l : List FS) (A : Option Addr) (c : Nat) (k : Int) (w : World) (hW : Below W.heap.size W w) (hrep : RepV (RepS W (n + 1)) 12 W (.slice A l.length c) l) (IH : l ≠ [] → CallsC W n) :
    Calls Tryz.prog 34 #[.slice A l.length c, .int .i64 k] w (RetB (.bool (callsL l k)) w) := by
  have hll := hrep.1
  have HREP := Lib.hid hrep
  have HIH := Lib.hid IH
  have hW0 := hW.size
  have HW := Lib.hid hW
  clear hrep IH hW
  go_enter Tryz.func34, Tryz.ntmps34
  go_wp2_with fail
  go_loopw [5] (fun i wr => CRel k l w i wr) (fun i _ => l.length - (intOf i).toNat)
  case atStart => exact ⟨0, Nat.zero_le _, rfl, fun i s hi => by omega, Below.refl _ _⟩
  case round =>
    obtain ⟨j, hj, rfl, hok, hb⟩ := hrel
    have HOK := Lib.hid hok
    have HB := Lib.hid hb
    have hbs := hb.size
    clear hok hb
    by_cases hlt : j < l.length
    · obtain ⟨b, o, c', op, name, at_, fn, names, e, args, arms, aN, cN, eo, en, ev, aC, lC, cC, aK, lK, cK, aA, cA, aR, cR, he, hbW, hs, q0, q1, q2, q3, q4, q5, q6, q7, q8, q9, q10, q11, i1, i2, i3, p1, p2, p3, p4⟩ := stmt_cells HREP.out (HW.out.trans (HB.out.mono hW0)) hlt
      injection he with he1 he2 he3
      subst he1
      have har := p4.1
      have HG := Lib.hid (show l[j]? = some (.mk op name at_ fn names e args arms) by rw [List.getElem?_eq_getElem hlt, hs])
      have HAR := Lib.hid p4
      have hne : l ≠ [] := (by intro h; rw [h] at hlt; simp at hlt)
      have HIHn := Lib.hid (HIH.out hne)
      obtain ⟨w1, hw1⟩ : ∃ w1, w1 = wr.alloc (Obj.cells #[Value.int IntKind.i64 op, Value.string name, Value.int IntKind.i64 at_, Value.int IntKind.i64 fn, Value.slice aN names.length cN, Value.int IntKind.i64 eo, Value.string en, Value.int IntKind.i64 ev, Value.slice aC lC cC, Value.slice aK lK cK, Value.slice aA args.length cA, Value.slice aR arms.length cR] 88) := ⟨_, rfl⟩
      have hb1 : Below w.heap.size w w1 := by rw [hw1]; exact HB.out.alloc hbs _
      have hN : w1.heap[wr.heap.size]? = some (Obj.cells #[Value.int IntKind.i64 op, Value.string name, Value.int IntKind.i64 at_, Value.int IntKind.i64 fn, Value.slice aN names.length cN, Value.int IntKind.i64 eo, Value.string en, Value.int IntKind.i64 ev, Value.slice aC lC cC, Value.slice aK lK cK, Value.slice aA args.length cA, Value.slice aR arms.length cR] 88 (0, 0)) := by rw [hw1]; exact heap_alloc_at _ _
      have HB1 := Lib.hid hb1
      have HN := Lib.hid hN
      have hNl := lt_of_block hN
      have hbs1 := hb1.size
      clear p1 p2 p3 p4 hs he2 he3 hne
      go_upto_region 5 with fail
      rw [← hw1]
      have n0 := cellB' hN 0 rfl
      have n3 := cellB' hN 3 rfl
      have n11 := cellB' hN 11 rfl
      clear hw1 hb1 hN q0 q1 q2 q3 q4 q5 q6 q7 q8 q9 q10 q11
      go_cut [36] from 18 to 36 (fun v wx => v = .bool ((op == 3 || op == 4) && (decide (fn < 0) || decide (k ≤ fn))) ∧ wx = w1)
      case first =>
        cases h3 : (op == 3) <;> cases h4 : (op == 4) <;> cases hl : decide (fn < 0) <;> cases hg : decide (k ≤ fn) <;>
          (go_wp2_with fail; go_meet; case rel => exact ⟨by rw [h3, h4, hl, hg]; rfl, rfl⟩)
      case rest =>
        obtain ⟨rfl, rfl⟩ := hcut
        generalize hbd : ((op == 3 || op == 4) && (decide (fn < 0) || decide (k ≤ fn))) = bd
        have HBD := Lib.hid hbd
        clear n0 n3 n11 hbd
        cases bd with
        | true =>
          have hcs : callsS (.mk op name at_ fn names e args arms) k = false := by simp only [callsS, HBD.out]; rfl
          have HR := Lib.hid (callsL_no HG.out hcs)
          clear hcs
          go_wp2_with fail
          go_ret
          exact ⟨by rw [HR.out]; rfl, HB1.out⟩
        | false =>
          go_wp2_with fail
          go_loopw [7] (fun i w2 => CARel k arms w wc i w2) (fun i _ => arms.length - (intOf i).toNat)
          case atStart => exact ⟨0, Nat.zero_le _, rfl, fun i a hi => by omega, HB1.out, Below.refl _ _⟩
          case round =>
            obtain ⟨i, hi, rfl, hok2, hb2, hb2'⟩ := hrel
            have HOK2 := Lib.hid hok2
            have HB2 := Lib.hid hb2
            have HB2' := Lib.hid hb2'
            have hbs2 := hb2.size
            have n11 := cellB' ((hb2'.block _ hNl).trans HN.out) 11 rfl
            have hNl2 := Nat.lt_of_lt_of_le hNl hb2'.size
            clear hok2 hb2 hb2'
            by_cases hlt2 : i < arms.length
            · obtain ⟨ba, oa, ca, Ab, cb, hae, hab, ha0, ha1, hbody⟩ := arm_cells HAR.out (HW.out.trans (HB2.out.mono hW0)) hlt2
              injection hae with e1 e2 e3
              subst e1
              have hAg : arms[i]? = some arms[i] := List.getElem?_eq_getElem hlt2
              have HBO := Lib.hid hbody
              generalize arms[i] = a at *
              have HAg := Lib.hid hAg
              clear hAg hbody e2 e3
              go_wp2_with fail
              refine (HIHn.out a.body Ab cb k _ (HW.out.trans (HB2.out.mono hW0)) HBO.out).mono ?_
              rintro e4 w4 ⟨rfl, hb4⟩
              have HB4 := Lib.hid hb4
              clear hb4
              generalize hcl : callsL a.body k = bc
              have HCL := Lib.hid hcl
              clear hcl
              cases bc with
              | false =>
                have hcs : callsS (.mk op name at_ fn names e args arms) k = false := by simp only [callsS, HBD.out, callsAs_no HAg.out HCL.out]; rfl
                have HR := Lib.hid (callsL_no HG.out hcs)
                clear hcs
                go_wp2_with fail
                go_ret
                exact ⟨by rw [HR.out]; rfl, HB2.out.trans (HB4.out.mono hbs2)⟩
              | true =>
                go_wp2_with fail
                refine ⟨⟨i + 1, hlt2, by simp, fun x b hx hb => ?_, HB2.out.trans (HB4.out.mono hbs2), HB2'.out.trans (HB4.out.mono HB2'.out.size)⟩, by simp [intOf]; omega⟩
                rcases Nat.lt_or_ge x i with h | h
                · exact HOK2.out x b h hb
                · obtain rfl : x = i := by omega
                  rw [HAg.out] at hb
                  simp only [Option.some.injEq] at hb
                  rw [← hb]; exact HCL.out
            · obtain rfl : i = arms.length := by omega
              have hcs : callsS (.mk op name at_ fn names e args arms) k = true := by
                simp only [callsS, HBD.out, callsAs_yes (fun j a hj => HOK2.out j a (List.getElem?_eq_some_iff.1 hj).1 hj)]; rfl
              have HCS := Lib.hid hcs
              clear hcs
              go_wp2_with fail
              refine ⟨⟨j + 1, hlt, by simp, fun x s hx hs => ?_, HB2.out⟩, by simp [intOf]; omega⟩
              rcases Nat.lt_or_ge x j with h | h
              · exact HOK.out x s h hs
              · obtain rfl : x = j := by omega
                rw [HG.out] at hs
                simp only [Option.some.injEq] at hs
                rw [← hs]; exact HCS.out
    · obtain rfl : j = l.length := by omega
      go_wp2_with fail
      go_ret
      refine ⟨?_, HB.out⟩
      rw [callsL_yes (fun j s hj => HOK.out j s (List.getElem?_eq_some_iff.1 hj).1 hj)]; rfl
theorem calls_any (W : World) : ∀ n, CallsC W n := by
  intro n
  induction n with
  | zero =>
    intro l A c k w hW hrep
    obtain ⟨hl, hr⟩ := repS_nil (n := 1) hrep
    exact calls_core l A c k w hW hr (fun h => absurd hl h)
  | succ n ih => exact fun l A c k w hW hrep => calls_core l A c k w hW hrep (fun _ => ih)
end Go.Proofs.YtoaajpppbjaomaaGreatDoor
/- The reference's Right: may a flat program be run? -/
namespace Go.Proofs.YtoaajpppbjaomaaGreatDoor
open Go.RowKit
def RRel (funs : List FN) (w w1 : World) (i : Value) (wr : World) : Prop :=
  ∃ k : Nat, k ≤ funs.length ∧ i = .int .i64 k ∧ (∀ j, j < k → rightAt funs j = true) ∧ Below w.heap.size w wr ∧ Below w1.heap.size w1 wr
def RFRel (f : FN) (w w1 : World) (i : Value) (wr : World) : Prop :=
  ∃ j : Nat, j ≤ f.flags.length ∧ i = .int .i64 j ∧ (∀ (x : Nat) n, x < j → f.flags[x]? = some n → flagOk f.cells n = true) ∧ Below w.heap.size w wr ∧ Below w1.heap.size w1 wr
def RPRel (funs : List FN) (f : FN) (k : Nat) (w w1 : World) (i : Value) (wr : World) : Prop :=
  ∃ j : Nat, j ≤ f.parts.length ∧ i = .int .i64 j ∧ (∀ (x : Nat) p, x < j → f.parts[x]? = some p → partOk funs f.cells k p = true) ∧ Below w.heap.size w wr ∧ Below w1.heap.size w1 wr
set_option maxRecDepth 100000 in
set_option maxHeartbeats 2000000 in
theorem right_any {W : World} {funs : List FN} {nf : Nat} {fv : Value} (w : World) (hW : Below W.heap.size W w) (hrep : RepV (RepF W nf) 6 W fv funs) :
    Calls Tryz.prog 20 #[.agg #[fv]] w (RetB (.bool (rightF funs)) w) := by
  obtain ⟨A, c, rfl, hc1, hc2, hll⟩ := hrep.sl
  have HREP := Lib.hid hrep
  have HW := Lib.hid hW
  have hW0 := hW.size
  clear hrep hW
  obtain ⟨w1, hw1⟩ : ∃ w1, w1 = w.alloc (Obj.cells #[.slice A funs.length c] 24) := ⟨_, rfl⟩
  have hb1 : Below w.heap.size w w1 := by rw [hw1]; exact (Below.refl _ _).alloc (Nat.le_refl _) _
  have hN1 : w1.heap[w.heap.size]? = some (Obj.cells #[.slice A funs.length c] 24 (0, 0)) := by rw [hw1]; exact heap_alloc_at _ _
  have HB1 := Lib.hid hb1
  have HN1 := Lib.hid hN1
  have hbs1 := hb1.size
  have hN1l := lt_of_block hN1
  clear hb1 hN1
  go_enter Tryz.func20, Tryz.ntmps20
  go_wp2_with fail
  rw [← hw1]
  clear hw1
  go_loopw [3] (fun i wr => RRel funs w w1 i wr) (fun i _ => funs.length - (intOf i).toNat)
  case atStart => exact ⟨0, Nat.zero_le _, rfl, fun j hj => by omega, HB1.out, Below.refl _ _⟩
  case round =>
    obtain ⟨k, hk, rfl, hok, hb, hb'⟩ := hrel
    have HOK := Lib.hid hok
    have HB := Lib.hid hb
    have HB' := Lib.hid hb'
    have hbs := hb.size
    have hbs' := hb'.size
    clear hok hb hb'
    have m0 := (HB'.out.cell (p := ⟨w.heap.size, 0, none⟩) hN1l).trans (cellB' HN1.out 0 rfl)
    by_cases hlt : k < funs.length
    · generalize hf : funs.getD k default = f
      obtain ⟨b, o, c', Ap, cp, Ar, cr, Af, cf, Aq, cq, Ab, cb, hsl, -, hbW, k0, k1, k2, k3, k4, k5, r1, r2, r3, r4, r5⟩ := fn_cells HREP.out (HW.out.trans (HB.out.mono hW0)) hlt hf
      injection hsl with e1 e2 e3
      subst e1
      have HF := Lib.hid hf
      have HFQ := Lib.hid r4
      have HFF := Lib.hid r3
      have HFB := Lib.hid r5
      have hfq := r4.1
      have hff := r3.1
      obtain ⟨w2, hw2⟩ : ∃ w2, w2 = wr.alloc (Obj.cells #[Value.slice Ap f.params.length cp, Value.slice Ar f.results.length cr, Value.int IntKind.i64 f.cells, Value.slice Af f.flags.length cf, Value.slice Aq f.parts.length cq, Value.slice Ab f.body.length cb] 50) := ⟨_, rfl⟩
      have hb2 : Below wr.heap.size wr w2 := by rw [hw2]; exact (Below.refl _ _).alloc (Nat.le_refl _) _
      have hN2 : w2.heap[wr.heap.size]? = some (Obj.cells #[Value.slice Ap f.params.length cp, Value.slice Ar f.results.length cr, Value.int IntKind.i64 f.cells, Value.slice Af f.flags.length cf, Value.slice Aq f.parts.length cq, Value.slice Ab f.body.length cb] 50 (0, 0)) := by rw [hw2]; exact heap_alloc_at _ _
      have HB2 := Lib.hid (HB.out.trans (hb2.mono hbs))
      have HB2' := Lib.hid (HB'.out.trans (hb2.mono hbs'))
      have HN2 := Lib.hid hN2
      have hbs2 := HB2.out.size
      have hn2l := lt_of_block hN2
      clear hf e2 e3
      go_upto_region 5 with fail
      rw [← hw2]
      clear hw2 hb2 hN2 k0 k1 k2 k3 k4 k5 r1 r2 r3 r4 r5 m0 HB HB' hbs hbs'
      generalize hFB : wr.heap.size = FB at HN2 hn2l ⊢
      have n2 := cellB' HN2.out 2 rfl
      have n5 := cellB' HN2.out 5 rfl
      by_cases hc0 : f.cells < 0
      · have HR := Lib.hid (rightF_no hlt (rightAt_cells HF.out (by omega)))
        go_wp2_with fail
        go_ret
        exact ⟨by rw [HR.out]; rfl, HB2.out⟩
      by_cases hc1 : 1000 < f.cells
      · have HR := Lib.hid (rightF_no hlt (rightAt_cells HF.out (by omega)))
        go_wp2_with fail
        go_ret
        exact ⟨by rw [HR.out]; rfl, HB2.out⟩
      go_wp2_with fail
      refine (calls_any W nf f.body Ab cb k w2 (HW.out.trans (HB2.out.mono hW0)) HFB.out).mono ?_
      rintro e3 w3 ⟨rfl, hb3⟩
      generalize hcl : callsL f.body k = bc
      have HB3 := Lib.hid (HB2.out.trans (hb3.mono hbs2))
      have HB3' := Lib.hid (HB2'.out.trans (hb3.mono HB2'.out.size))
      have HN3 := Lib.hid ((hb3.block _ hn2l).trans HN2.out)
      have HCL := Lib.hid hcl
      have hbs3 := HB3.out.size
      have hn3l := lt_of_block HN3.out
      clear n2 n5 hb3 hcl
      cases bc with
      | false =>
        have HR := Lib.hid (rightF_no hlt (rightAt_calls HF.out HCL.out))
        go_wp2_with fail
        go_ret
        exact ⟨by rw [HR.out]; rfl, HB3.out⟩
      | true =>
        go_wp2_with fail
        go_loopw [5] (fun i w4 => RFRel f w w3 i w4) (fun i _ => f.flags.length - (intOf i).toNat)
        case atStart => exact ⟨0, Nat.zero_le _, rfl, fun x n hx => by omega, HB3.out, Below.refl _ _⟩
        case round =>
          obtain ⟨j, hj, rfl, hfo, hb4, hb4'⟩ := hrel
          have HFO := Lib.hid hfo
          have HB4 := Lib.hid hb4
          have HB4' := Lib.hid hb4'
          have hbs4 := hb4.size
          have HN4 := Lib.hid ((hb4'.block _ hn3l).trans HN3.out)
          have hn4l := lt_of_block HN4.out
          have n2 := cellB' HN4.out 2 rfl
          have n3 := cellB' HN4.out 3 rfl
          have n4 := cellB' HN4.out 4 rfl
          clear hfo hb4 hb4'
          by_cases hlt2 : j < f.flags.length
          · obtain ⟨bf, of, cf', hfe, hbf, hf0, hfI⟩ := intL_cell HFF.out (HW.out.trans (HB4.out.mono hW0)) hlt2
            injection hfe with e1 e2 e3
            subst e1
            have HG := Lib.hid (List.getElem?_eq_getElem hlt2)
            generalize f.flags[j] = x at HG hf0 hfI
            clear e2 e3
            go_upto_region 10 with fail
            by_cases g1 : x < 0
            · have d1 : decide (x < 0) = true := by simpa using g1
              have HR := Lib.hid (rightF_no hlt (rightAt_flag HF.out HG.out (by unfold flagOk; simp; omega)))
              go_quiet (fail)
              go_wp2_with fail
              go_ret
              exact ⟨by rw [HR.out]; rfl, Below.drewN' HB4.out _⟩
            have d1 : decide (x < 0) = false := by simpa using g1
            by_cases g2 : f.cells ≤ x
            · have d2 : decide (f.cells ≤ x) = true := by simpa using g2
              have HR := Lib.hid (rightF_no hlt (rightAt_flag HF.out HG.out (by unfold flagOk; simp; omega)))
              go_quiet (fail)
              go_wp2_with fail
              go_ret
              exact ⟨by rw [HR.out]; rfl, Below.drewN' HB4.out _⟩
            have d2 : decide (f.cells ≤ x) = false := by simpa using g2
            go_quiet (fail)
            go_wp2_with fail
            refine ⟨⟨j + 1, hlt2, by simp, fun y n hy hn => ?_, Below.drewN' HB4.out _, Below.drewN' HB4'.out _⟩, by simp [intOf]; omega⟩
            rcases Nat.lt_or_ge y j with h | h
            · exact HFO.out y n h hn
            · obtain rfl : y = j := by omega
              rw [HG.out] at hn
              simp only [Option.some.injEq] at hn
              rw [← hn]; unfold flagOk; simp; omega
          · obtain rfl : j = f.flags.length := by omega
            go_wp2_with fail
            go_loopw [6] (fun i w5 => RPRel funs f k w wr i w5) (fun i _ => f.parts.length - (intOf i).toNat)
            case atStart => exact ⟨0, Nat.zero_le _, rfl, fun x n hx => by omega, HB4.out, Below.refl _ _⟩
            case round =>
              obtain ⟨i, hi, rfl, hpo, hb5, hb5'⟩ := hrel
              have HPO := Lib.hid hpo
              have HB5 := Lib.hid hb5
              have HB5' := Lib.hid hb5'
              have hbs5 := hb5.size
              have HN5 := Lib.hid ((hb5'.block _ hn4l).trans HN4.out)
              have hn5l := lt_of_block HN5.out
              have HM5 := Lib.hid ((HB3'.out.trans ((HB4'.out.trans (hb5'.mono HB4'.out.size)).mono HB3'.out.size)).block _ hN1l |>.trans HN1.out)
              have hm5l := lt_of_block HM5.out
              clear hpo hb5 hb5' n2 n3 n4
              have n2 := cellB' HN5.out 2 rfl
              have n4 := cellB' HN5.out 4 rfl
              by_cases hlt3 : i < f.parts.length
              · obtain ⟨bp, op, cp', hpe, hbp, hp0, hp1, hpI0, hpI1⟩ := partL_cell HFQ.out (HW.out.trans (HB5.out.mono hW0)) hlt3
                injection hpe with e1 e2 e3
                subst e1
                have hg : f.parts[i]? = some f.parts[i] := List.getElem?_eq_getElem hlt3
                generalize f.parts[i] = p at hg hp0 hp1 hpI0 hpI1
                obtain ⟨pa, pf⟩ := p
                simp only at hp0 hp1 hpI0 hpI1
                have HG := Lib.hid hg
                clear hg e2 e3
                go_upto_region 16 with fail
                obtain ⟨w6, hw6⟩ : ∃ w6, w6 = wr.alloc (Obj.cells #[Value.int IntKind.i64 pa, Value.int IntKind.i64 pf] 56) := ⟨_, rfl⟩
                rw [← hw6]
                have hs6 : wr.heap.size < w6.heap.size := by rw [hw6]; simp
                have hN6 : w6.heap[wr.heap.size]? = some (Obj.cells #[Value.int IntKind.i64 pa, Value.int IntKind.i64 pf] 56 (0, 0)) := by rw [hw6]; exact heap_alloc_at _ _
                have hb6 : Below wr.heap.size wr w6 := by rw [hw6]; exact (Below.refl _ _).alloc (Nat.le_refl _) _
                clear hw6
                have HB6 := Lib.hid (HB5.out.trans (hb6.mono hbs5))
                have HB6' := Lib.hid (HB5'.out.trans (hb6.mono HB5'.out.size))
                have HP6 := Lib.hid hN6
                have HN6 := Lib.hid ((hb6.block _ hn5l).trans HN5.out)
                have HM6 := Lib.hid ((hb6.block _ hm5l).trans HM5.out)
                clear hp0 hp1 hN6 hb6 n4 n2
                have p0 := cellB' HP6.out 0 rfl
                have p1 := cellB' HP6.out 1 rfl
                have n2 := cellB' HN6.out 2 rfl
                have m0 := cellB' HM6.out 0 rfl
                have hbs6 := HB6.out.size
                have hn6l := lt_of_block HN6.out
                have hm6l := lt_of_block HM6.out
                generalize hPB : wr.heap.size = PB at HP6 p0 p1 hs6 hbs5 ⊢
                by_cases g1 : pf < 0
                · have d1 : decide (pf < 0) = true := by simpa using g1
                  have HR := Lib.hid (rightF_no hlt (rightAt_part HF.out HG.out (partOk_no (by simp only; omega))))
                  go_quiet (fail)
                  go_wp2_with fail
                  go_ret
                  exact ⟨by rw [HR.out]; rfl, Below.drewN' HB6.out _⟩
                have d1 : decide (pf < 0) = false := by simpa using g1
                by_cases g2 : (k : Int) ≤ pf
                · have d2 : decide ((k : Int) ≤ pf) = true := by simpa using g2
                  have HR := Lib.hid (rightF_no hlt (rightAt_part HF.out HG.out (partOk_no (by simp only; omega))))
                  go_quiet (fail)
                  go_wp2_with fail
                  go_ret
                  exact ⟨by rw [HR.out]; rfl, Below.drewN' HB6.out _⟩
                have d2 : decide ((k : Int) ≤ pf) = false := by simpa using g2
                by_cases g3 : pa < 0
                · have d3 : decide (pa < 0) = true := by simpa using g3
                  have HR := Lib.hid (rightF_no hlt (rightAt_part HF.out HG.out (partOk_no (by simp only; omega))))
                  go_quiet (fail)
                  go_wp2_with fail
                  go_ret
                  exact ⟨by rw [HR.out]; rfl, Below.drewN' HB6.out _⟩
                have d3 : decide (pa < 0) = false := by simpa using g3
                by_cases g4 : f.cells < pa
                · have d4 : decide (f.cells < pa) = true := by simpa using g4
                  have HR := Lib.hid (rightF_no hlt (rightAt_part HF.out HG.out (partOk_no (by simp only; omega))))
                  go_quiet (fail)
                  go_wp2_with fail
                  go_ret
                  exact ⟨by rw [HR.out]; rfl, Below.drewN' HB6.out _⟩
                have d4 : decide (f.cells < pa) = false := by simpa using g4
                obtain ⟨fk, rfl⟩ := Int.eq_ofNat_of_zero_le (show 0 ≤ pf by omega)
                have hfkl : fk < funs.length := by omega
                obtain ⟨b', o', c'', _, _, _, _, _, _, _, _, _, _, hsl, -, hbW', -, -, kx2, -, -, -, -⟩ := fn_cells HREP.out (HW.out.trans (HB6.out.mono hW0)) hfkl rfl
                injection hsl with e1 e2 e3
                injection e1 with e1
                injection e1 with e1 e4
                subst e1 e4
                clear e2 e3
                have hb6l : b < w6.heap.size := by have := HW.out.size; omega
                generalize hxc : (funs.getD fk default).cells = xc at kx2
                by_cases g5 : f.cells - pa < xc
                · have d5 : decide (f.cells - pa < xc) = true := by simpa using g5
                  have HR := Lib.hid (rightF_no hlt (rightAt_part HF.out HG.out (partOk_no (by simp only [Int.toNat_natCast]; rw [hxc]; omega))))
                  go_quiet (fail)
                  go_wp2_with fail
                  go_ret
                  exact ⟨by rw [HR.out]; rfl, Below.drewN' HB6.out _⟩
                have d5 : decide (f.cells - pa < xc) = false := by simpa using g5
                have HPK := Lib.hid (partOk_yes (funs := funs) (c := f.cells) (k := (k : Int)) (p := ⟨pa, fk⟩) ⟨by simp only; omega, by simp only; omega, by simp only; omega, by simp only; omega, by simp only [Int.toNat_natCast]; rw [hxc]; omega⟩)
                go_quiet (fail)
                go_wp2_with fail
                refine ⟨⟨i + 1, hlt3, by simp, fun y q hy hq => ?_, Below.drewN' HB6.out _, Below.drewN' HB6'.out _⟩, by simp [intOf]; omega⟩
                rcases Nat.lt_or_ge y i with h | h
                · exact HPO.out y q h hq
                · obtain rfl : y = i := by omega
                  rw [HG.out] at hq
                  simp only [Option.some.injEq] at hq
                  rw [← hq]; exact HPK.out
              · obtain rfl : i = f.parts.length := by omega
                have HR := Lib.hid (rightAt_yes HF.out (by omega) (by omega) HCL.out (List.all_eq_true.2 fun x hx => by
                  obtain ⟨j, hj⟩ := List.getElem?_of_mem hx
                  exact HFO.out j x (List.getElem?_eq_some_iff.1 hj).1 hj) (List.all_eq_true.2 fun p hp => by
                  obtain ⟨j, hj⟩ := List.getElem?_of_mem hp
                  exact HPO.out j p (List.getElem?_eq_some_iff.1 hj).1 hj))
                go_wp2_with fail
                refine ⟨⟨k + 1, hlt, by simp, fun j hj => ?_, HB5.out, HB3'.out.trans ((HB4'.out.trans (HB5'.out.mono HB4'.out.size)).mono HB3'.out.size)⟩, by simp [intOf]; omega⟩
                rcases Nat.lt_or_ge j k with h | h
                · exact HOK.out j h
                · obtain rfl : j = k := by omega
                  exact HR.out
    · obtain rfl : k = funs.length := by omega
      have HR := Lib.hid (show rightF funs = decide (0 < funs.length) by
        unfold rightF
        rw [List.all_eq_true.2 (fun j hj => HOK.out j (by simpa using hj)), Bool.true_and])
      have d0 : decide ((0 : Int) < (funs.length : Int)) = decide (0 < funs.length) := by simp
      go_wp2_with fail
      go_ret
      refine ⟨?_, HB.out⟩
      rw [HR.out, ← d0]; rfl
end Go.Proofs.YtoaajpppbjaomaaGreatDoor
/- The reference's work: how much statements do: some number. -/
namespace Go.Proofs.YtoaajpppbjaomaaGreatDoor
open Go.RowKit
def Big (ws : List Int) : Prop := ∀ x, x ∈ ws → 0 ≤ x ∧ x ≤ 2147483648
def SomeInt (w : World) (e : Ending) (w' : World) : Prop := ∃ x : Int, 0 ≤ x ∧ x ≤ 1073741824 ∧ e = .returned (.int .i64 x) ∧ Below w.heap.size w w'
def WorkC (W : World) (n : Nat) : Prop := ∀ (l : List FS) (A : Option Addr) (c : Nat) (k : Int) (w : World) (vd vh : Value) (ds hs : List Int), Below W.heap.size W w → RepV (RepS W n) 12 W (.slice A l.length c) l → callsL l k = true → k ≤ ds.length → k ≤ hs.length →
  Ints w vd ds → Ints w vh hs → Big ds → Big hs → ds.length ≤ 1048576 → hs.length ≤ 1048576 → Calls Tryz.prog 21 #[.slice A l.length c, vd, vh] w (SomeInt w)
def WkRel (l : List FS) (w : World) (n i : Value) (wr : World) : Prop :=
  ∃ (j : Nat) (m : Int), j ≤ l.length ∧ i = .int .i64 j ∧ n = .int .i64 m ∧ 0 ≤ m ∧ m ≤ 1073741824 ∧ Below w.heap.size w wr
def WkARel (l : List FA) (w : World) (n i : Value) (wr : World) : Prop :=
  ∃ (j : Nat) (m : Int), j ≤ l.length ∧ i = .int .i64 j ∧ n = .int .i64 m ∧ 0 ≤ m ∧ m ≤ 8589934592 + 1073741824 * (j : Int) ∧ Below w.heap.size w wr
set_option maxRecDepth 100000 in
set_option maxHeartbeats 1000000 in
theorem work_core {W : World} {n : Nat} (l : List FS) (A : Option Addr) (c : Nat) (k : Int) (w : World) (vd vh : Value) (ds hs : List Int) (hW : Below W.heap.size W w) (hrep : RepV (RepS W (n + 1)) 12 W (.slice A l.length c) l) (hcal : callsL l k = true) (hkd : k ≤ ds.length) (hkh : k ≤ hs.length)
    (hid : Ints w vd ds) (hih : Ints w vh hs) (hbd : Big ds) (hbh : Big hs) (hdl : ds.length ≤ 1048576) (hhl : hs.length ≤ 1048576) (IH : l ≠ [] → WorkC W n) :
    Calls Tryz.prog 21 #[.slice A l.length c, vd, vh] w (SomeInt w) := by
  have hll := hrep.1
  have HREP := Lib.hid hrep
  have HID := Lib.hid hid
  have HIHh := Lib.hid hih
  have HIH := Lib.hid IH
  have HCAL := Lib.hid hcal
  have HBD := Lib.hid hbd
  have HBH := Lib.hid hbh
  have hW0 := hW.size
  have HW := Lib.hid hW
  obtain ⟨Ad, cd, rfl, -⟩ := hid
  obtain ⟨Ah, ch, rfl, -⟩ := hih
  clear hrep IH hcal hbd hbh hW
  go_enter Tryz.func21, Tryz.ntmps21
  go_wp2_with fail
  go_loopw [7, 8] (fun n i wr => WkRel l w n i wr) (fun _ i _ => l.length - (intOf i).toNat)
  case atStart => exact ⟨0, 0, Nat.zero_le _, rfl, rfl, by omega, by omega, Below.refl _ _⟩
  case round =>
    obtain ⟨j, m, hj, rfl, rfl, hm0, hm1, hb⟩ := hrel
    have HB := Lib.hid hb
    have hbs := hb.size
    clear hb
    by_cases hlt : j < l.length
    · obtain ⟨b, o, c', op, name, at_, fn, names, e, args, arms, aN, cN, eo, en, ev, aC, lC, cC, aK, lK, cK, aA, cA, aR, cR, he, hbW, hs', q0, q1, q2, q3, q4, q5, q6, q7, q8, q9, q10, q11, i1, i2, i3, p1, p2, p3, p4⟩ := stmt_cells HREP.out (HW.out.trans (HB.out.mono hW0)) hlt
      injection he with he1 he2 he3
      subst he1
      have har := p4.1
      have HG := Lib.hid (show l[j]? = some (.mk op name at_ fn names e args arms) by rw [List.getElem?_eq_getElem hlt, hs'])
      have hcs := callsL_at HCAL.out HG.out
      simp only [callsS, Bool.and_eq_true] at hcs
      have HCA := Lib.hid hcs.2
      have HAR := Lib.hid p4
      have hne : l ≠ [] := (by intro h; rw [h] at hlt; simp at hlt)
      have HIHn := Lib.hid (HIH.out hne)
      have hcs1 := hcs.1
      have hbl : b < wr.heap.size := by omega
      clear p1 p2 p3 p4 hs' he2 he3 hne hcs
      have hbB : Below W.heap.size W wr := HW.out.trans (HB.out.mono hW0)
      have Q11 : W.cell? ⟨b, o + j * 12 + 11, none⟩ = some (.slice aR arms.length cR) := (hbB.cell (p := ⟨b, o + j * 12 + 11, none⟩) hbW).symm.trans q11
      clear hbB
      go_upto_if 23 with fail
      go_cut [7] from 16 to 49 (fun v wx => ∃ m1 : Int, v = .int .i64 m1 ∧ 0 ≤ m1 ∧ m1 ≤ 4294967296 ∧ wx = wr)
      case first =>
        by_cases h3 : op = 3
        · have hf : 0 ≤ fn ∧ fn < k := by
            simp only [h3] at hcs1
            simp at hcs1
            omega
          obtain ⟨fk, rfl⟩ := Int.eq_ofNat_of_zero_le hf.1
          have hfl : fk < ds.length := by omega
          obtain ⟨bt, ot, ct', het, hbt, hct⟩ := int_cell (HID.out.kept (S := []) (Keep.of_below HB.out) (fun x hx => by cases hx)) hfl
          injection het with e1 e2 e3
          subst e1
          have hx := HBD.out ds[fk] (List.getElem_mem _)
          generalize hxv : ds[fk] = xv at hct hx
          subst h3
          clear hxv e2 e3 hcs1
          go_wp2_with fail
          go_meet
          case rel => exact ⟨_, rfl, by omega, by omega, rfl⟩
        · have e3 : (op == 3) = false := by simp [h3]
          go_wp2_with fail
          go_meet
          case rel => exact ⟨_, rfl, by omega, by omega, rfl⟩
      case rest =>
        obtain ⟨m0, rfl, hm0', hm1', rfl⟩ := hcut
        go_upto_if 39 with fail
        go_cut [7] from 16 to 49 (fun v wx => ∃ m1 : Int, v = .int .i64 m1 ∧ 0 ≤ m1 ∧ m1 ≤ 8589934592 ∧ wx = wc)
        case first =>
          by_cases h4 : op = 4
          · have hf : 0 ≤ fn ∧ fn < k := by
              simp only [h4] at hcs1
              simp at hcs1
              omega
            obtain ⟨fk, rfl⟩ := Int.eq_ofNat_of_zero_le hf.1
            have hfl : fk < hs.length := by omega
            obtain ⟨bt, ot, ct', het, hbt, hct⟩ := int_cell (HIHh.out.kept (S := []) (Keep.of_below HB.out) (fun x hx => by cases hx)) hfl
            injection het with e1 e2 e3
            subst e1
            have hx := HBH.out hs[fk] (List.getElem_mem _)
            generalize hxv : hs[fk] = xv at hct hx
            subst h4
            clear hxv e2 e3 hcs1
            go_wp2_with fail
            go_meet
            case rel => exact ⟨_, rfl, by omega, by omega, rfl⟩
          · have e4 : (op == 4) = false := by simp [h4]
            go_wp2_with fail
            go_meet
            case rel => exact ⟨_, rfl, by omega, by omega, rfl⟩
        case rest =>
          obtain ⟨m1, rfl, hm2, hm3, rfl⟩ := hcut
          clear hcs1 q0 q1 q2 q3 q4 q5 q6 q7 q8 q9 q10 q11
          go_wp2_with fail
          go_loopw [7, 9] (fun n i w2 => WkARel arms w n i w2) (fun _ i _ => arms.length - (intOf i).toNat)
          case atStart => exact ⟨0, m1, Nat.zero_le _, rfl, rfl, by omega, by omega, HB.out⟩
          case round =>
            obtain ⟨i, m2, hi, rfl, rfl, hm4, hm5, hb2⟩ := hrel
            have hbB : Below W.heap.size W wr := HW.out.trans (hb2.mono hW0)
            have q11 : wr.cell? ⟨b, o + j * 12 + 11, none⟩ = some (.slice aR arms.length cR) := (hbB.cell (p := ⟨b, o + j * 12 + 11, none⟩) hbW).trans Q11
            have HB2 := Lib.hid hb2
            have hbs2 := hb2.size
            clear hb2 hbB
            by_cases hlt2 : i < arms.length
            · obtain ⟨ba, oa, ca, Ab, cb, hae, hab, ha0, ha1, hbody⟩ := arm_cells HAR.out (HW.out.trans (HB2.out.mono hW0)) hlt2
              injection hae with e1 e2 e3
              subst e1
              have hAg : arms[i]? = some arms[i] := List.getElem?_eq_getElem hlt2
              have hcl := callsAs_at HCA.out hAg
              have HBO := Lib.hid hbody
              generalize arms[i] = a at *
              have HCL := Lib.hid hcl
              clear hcl hAg hbody e2 e3
              go_wp2_with fail
              refine (HIHn.out a.body Ab cb k _ _ _ ds hs (HW.out.trans (HB2.out.mono hW0)) HBO.out HCL.out hkd hkh (HID.out.kept (S := []) (Keep.of_below HB2.out) (fun x hx => by cases hx)) (HIHh.out.kept (S := []) (Keep.of_below HB2.out) (fun x hx => by cases hx)) HBD.out HBH.out hdl hhl).mono ?_
              rintro e4 w4 ⟨x, hx0, hx1, rfl, hb4⟩
              have HB4 := Lib.hid (HB2.out.trans (hb4.mono hbs2))
              clear hb4
              go_wp2_with fail
              exact ⟨⟨i + 1, m2 + x, hlt2, by simp, rfl, by omega, by omega, HB4.out⟩, by simp [intOf]; omega⟩
            · obtain rfl : i = arms.length := by omega
              go_wp2_with fail
              exact ⟨⟨j + 1, (if 1073741824 < m2 then 1073741824 else m2), hlt, by simp, rfl, by split <;> omega, by split <;> omega, HB2.out⟩, by simp [intOf]; omega⟩
    · obtain rfl : j = l.length := by omega
      go_wp2_with fail
      go_ret
      exact ⟨m, hm0, hm1, rfl, HB.out⟩
theorem work_any (W : World) : ∀ n, WorkC W n := by
  intro n
  induction n with
  | zero =>
    intro l A c k w vd vh ds hs hW hrep hcal hkd hkh hid hih hbd hbh hdl hhl
    obtain ⟨hl, hr⟩ := repS_nil (n := 1) hrep
    exact work_core l A c k w vd vh ds hs hW hr hcal hkd hkh hid hih hbd hbh hdl hhl (fun h => absurd hl h)
  | succ n ih => exact fun l A c k w vd vh ds hs hW hrep hcal hkd hkh hid hih hbd hbh hdl hhl => work_core l A c k w vd vh ds hs hW hrep hcal hkd hkh hid hih hbd hbh hdl hhl (fun _ => ih)
end Go.Proofs.YtoaajpppbjaomaaGreatDoor
/- The reference's Great: it hands back some Boolean. -/
namespace Go.Proofs.YtoaajpppbjaomaaGreatDoor
open Go.RowKit
def SomeBool (w : World) (e : Ending) (w' : World) : Prop := ∃ b : Bool, e = .returned (.bool b) ∧ Below w.heap.size w w'
def GRel (n : Nat) (w w1 : World) (vd vh i : Value) (wr : World) : Prop :=
  ∃ (k : Nat) (ds hs : List Int), k ≤ n ∧ i = .int .i64 k ∧ ds.length = k ∧ hs.length = k ∧ Big ds ∧ Big hs ∧ wr.ownsRow w1.heap.size 3 1 vd k (ds.map (Value.int .i64)) ∧ wr.ownsRow w1.heap.size 3 1 vh k (hs.map (Value.int .i64)) ∧
    (∀ g, vd.ownBlock = some g → vh.ownBlock ≠ some g) ∧ Below w.heap.size w wr ∧ Below w1.heap.size w1 wr
def GPRel (f : FN) (w2 : World) (n i : Value) (wr : World) : Prop :=
  ∃ (j : Nat) (m : Int), j ≤ f.parts.length ∧ i = .int .i64 j ∧ n = .int .i64 m ∧ 0 ≤ m ∧ m ≤ 1073741824 ∧ wr = w2
theorem big_snoc {l : List Int} {x : Int} (h : Big l) (hx : 0 ≤ x ∧ x ≤ 2147483648) : Big (l ++ [x]) := fun y hy => by
  rcases List.mem_append.1 hy with hy | hy
  · exact h y hy
  · simp at hy; subst hy; exact hx
theorem own_below2 {w w' : World} {B : Nat} {v : Value} {k : Nat} {xs : List Value} (h : w.ownsRow B 3 1 v k xs) (hb : Below w.heap.size w w') : w'.ownsRow B 3 1 v k xs := by
  refine ⟨h.1, ?_⟩
  rcases h.2 with h2 | ⟨g, cap, cur, hv, hg, hh, r⟩
  · exact .inl h2
  · exact .inr ⟨g, cap, cur, hv, hg, by rw [hb.block g (lt_of_block hh)]; exact hh, r⟩
theorem kept_dis {w w' : World} {B : Nat} {vd vh : Value} {k : Nat} {xs : List Value} (h : w.ownsRow B 3 1 vd k xs) (hd : ∀ g, vd.ownBlock = some g → vh.ownBlock ≠ some g) (hg : w.grownBy w' vh.ownBlock) : w'.ownsRow B 3 1 vd k xs := by
  refine h.kept hg ?_
  cases hv : vd.ownBlock with
  | none => exact .inl rfl
  | some g => exact .inr (fun e => hd g hv e.symm)
theorem grow_below1 {B : Nat} {w0 w w' : World} {v : Value} {k : Nat} {xs : List Value} (hb : Below B w0 w) (hB : B ≤ w.heap.size) (hown : w.ownsRow B 3 1 v k xs) (hg : w.grownBy w' v.ownBlock) : Below B w0 w' :=
  hb.grown hg hB (fun k hk => (hown.lt k hk).1)
theorem own_ints {w : World} {B : Nat} {v : Value} {k : Nat} {l : List Int} (h : w.ownsRow B 3 1 v k (l.map (Value.int .i64))) (hl : l.length = k) : Ints w v l := by
  subst hl; exact ints_of_own h
set_option maxRecDepth 100000 in
set_option maxHeartbeats 2000000 in
theorem great_any {W : World} {funs : List FN} {nf : Nat} {fv : Value} (w : World) (hW : Below W.heap.size W w) (hrep : RepV (RepF W nf) 6 W fv funs) :
    Calls Tryz.prog 7 #[.agg #[fv]] w (SomeBool w) := by
  obtain ⟨A, c, rfl, hc1, hc2, hll⟩ := hrep.sl
  have HREP := Lib.hid hrep
  have HW := Lib.hid hW
  have hW0 := hW.size
  clear hrep hW
  go_enter Tryz.func7, Tryz.ntmps7
  go_wp2_with fail
  have hb0 : Below w.heap.size w (w.alloc (Obj.cells #[.slice A funs.length c] 24)) := (Below.refl _ _).alloc (Nat.le_refl _) _
  have hN0 : (w.alloc (Obj.cells #[.slice A funs.length c] 24)).heap[w.heap.size]? = some (Obj.cells #[.slice A funs.length c] 24 (0, 0)) := heap_alloc_at _ _
  refine (right_any _ (HW.out.trans (hb0.mono hW0)) HREP.out).mono ?_
  rintro e w1 ⟨rfl, hb1⟩
  have HB1 := Lib.hid (hb0.trans (hb1.mono (by simp)))
  have HN1 := Lib.hid ((hb1.block _ (by simp)).trans hN0)
  have hbs1 := HB1.out.size
  have hN1l := lt_of_block HN1.out
  clear hb0 hN0 hb1
  cases hr : rightF funs with
  | false =>
    go_wp2_with fail
    go_ret
    exact ⟨false, rfl, HB1.out⟩
  | true =>
    have HRP := Lib.hid (rightP_of hr)
    have h0 := rightF_pos hr
    clear hr
    go_wp2_with fail
    go_loopw [3, 4, 5] (fun vd vh i wr => GRel funs.length w w1 vd vh i wr) (fun _ _ i _ => funs.length - (intOf i).toNat)
    case atStart => exact ⟨0, [], [], Nat.zero_le _, rfl, rfl, rfl, (fun x hx => by simp at hx), (fun x hx => by simp at hx), World.ownsRow_nil _ _ _ _, World.ownsRow_nil _ _ _ _, (fun g hg => by simp [Value.ownBlock] at hg), HB1.out, Below.refl _ _⟩
    case round =>
      obtain ⟨k, ds, hs, hk, rfl, hdl, hhl, hbd, hbh, hod, hoh, hdis, hb, hb'⟩ := hrel
      have HBD := Lib.hid hbd
      have HBH := Lib.hid hbh
      have HOD := Lib.hid hod
      have HOH := Lib.hid hoh
      have HDIS := Lib.hid hdis
      have HB := Lib.hid hb
      have HB' := Lib.hid hb'
      have hbs := hb.size
      have hbs' := hb'.size
      have m0 := (hb'.cell (p := ⟨w.heap.size, 0, none⟩) hN1l).trans (cellB' HN1.out 0 rfl)
      have hNl : w.heap.size < wr.heap.size := Nat.lt_of_lt_of_le hN1l hb'.size
      obtain ⟨Ad, cd, hvd, hdc⟩ := own_ints hod hdl
      obtain ⟨Ah, ch, hvh, hhc⟩ := own_ints hoh hhl
      rw [hdl] at hvd
      rw [hhl] at hvh
      subst hvd hvh
      clear hbd hbh hod hoh hdis hb hb' hdc hhc
      by_cases hlt : k < funs.length
      · generalize hf : funs.getD k default = f
        have hcl := HRP.out.cells k hlt
        have hca := HRP.out.calls k hlt
        have hpa := HRP.out.parts k hlt
        rw [hf] at hcl hca hpa
        obtain ⟨b, o, c', Ap, cp, Ar, cr, Af, cf, Aq, cq, Ab, cb, hsl, -, hbW, k0, k1, k2, k3, k4, k5, r1, r2, r3, r4, r5⟩ := fn_cells HREP.out (HW.out.trans (HB.out.mono hW0)) hlt hf
        injection hsl with e1 e2 e3
        subst e1
        have hbl : b < wr.heap.size := by omega
        have HFQ := Lib.hid r4
        have HFB := Lib.hid r5
        have hfq := r4.1
        have HCA := Lib.hid hca
        have HPA := Lib.hid hpa
        clear hf e2 e3 hca hpa r1 r2 r3 r4 r5
        go_wp2_with fail
        go_loopw [6, 7] (fun n i w2 => GPRel f wr n i w2) (fun _ i _ => f.parts.length - (intOf i).toNat)
        case atStart => exact ⟨0, 1 + f.cells, Nat.zero_le _, rfl, rfl, by omega, by omega, rfl⟩
        case round =>
          obtain ⟨j, m, hj, rfl, rfl, hm0, hm1, rfl⟩ := hrel
          by_cases hlt2 : j < f.parts.length
          · obtain ⟨bp, op, cp', hpe, hbp, hp0, hp1, hpI0, hpI1⟩ := partL_cell HFQ.out (HW.out.trans (HB.out.mono hW0)) hlt2
            injection hpe with e1 e2 e3
            subst e1
            have hp := HPA.out f.parts[j] (List.getElem_mem _)
            generalize f.parts[j] = p at hp0 hp1 hp
            obtain ⟨pa, pf⟩ := p
            simp only at hp0 hp1 hp
            obtain ⟨fk, rfl⟩ := Int.eq_ofNat_of_zero_le hp.1
            have hfl : fk < hs.length := by omega
            obtain ⟨bt, ot, ct', het, hbt, hct⟩ := int_cell (own_ints HOH.out hhl) hfl
            injection het with e4 e5 e6
            subst e4
            have hx := HBH.out hs[fk] (List.getElem_mem _)
            generalize hs[fk] = xv at hct hx
            have hbpl : bp < wr.heap.size := by omega
            have hfk : fk < k := by omega
            clear e2 e3 e5 e6 hp
            go_wp2_with fail
            exact ⟨⟨j + 1, (if 1073741824 < m + xv then 1073741824 else m + xv), hlt2, by simp, rfl, by split <;> omega, by split <;> omega, rfl⟩, by simp [intOf]; omega⟩
          · obtain rfl : j = f.parts.length := by omega
            have hnw : (wr.alloc (Obj.cells #[Value.int IntKind.i64 m] 3)).cell? ((⟨wr.heap.size, 0, none⟩ : Addr).add 0) = some (.int .i64 m) := by
              have := cellB' (heap_alloc_at wr (Obj.cells #[Value.int IntKind.i64 m] 3)) 0 rfl
              exact this
            go_wp2_with (at_builtin; go_loud (refine append_int rfl (.tmp 54) (.tmp 56) rfl w1.heap.size _ k _ rfl (HOH.out.alloc _) ⟨wr.heap.size, 0, none⟩ m rfl hnw (by omega) (by simp; omega) ?_))
            intro vh' w4 hoh4 hgr4 hfr4
            have hal : Below wr.heap.size wr (wr.alloc (Obj.cells #[Value.int IntKind.i64 m] 3)) := (Below.refl _ _).alloc (Nat.le_refl _) _
            have hod4 := kept_dis (HOD.out.alloc (Obj.cells #[Value.int IntKind.i64 m] 3)) HDIS.out hgr4
            have hb4' : Below w1.heap.size w1 w4 := grow_below1 (HB'.out.trans (hal.mono hbs')) (by simp; omega) (HOH.out.alloc (Obj.cells #[Value.int IntKind.i64 m] 3)) hgr4
            have hdis4 : ∀ g, (Value.slice Ad k cd).ownBlock = some g → vh'.ownBlock ≠ some g := fun g hg hg' => by
              rcases hfr4 g hg' with h | h
              · exact HDIS.out g hg h
              · have := (HOD.out.lt g hg).2
                first | omega | (simp at h; omega)
            have hoh4' : w4.ownsRow w1.heap.size 3 1 vh' (k + 1) ((hs ++ [m]).map (Value.int .i64)) := by simpa using hoh4
            have hlen4 : (hs ++ [m]).length = k + 1 := by simp [hhl]
            have HBH4 := Lib.hid (big_snoc HBH.out (x := m) (by omega))
            obtain ⟨Ah', ch', hvh', -⟩ := own_ints hoh4' hlen4
            rw [hlen4] at hvh'
            have HOD4 := Lib.hid hod4
            have HOH4 := Lib.hid hoh4'
            have HDIS4 := Lib.hid hdis4
            have HB4' := Lib.hid hb4'
            have HB4 := Lib.hid (HB1.out.trans (hb4'.mono hbs1))
            have hbs4 := HB4.out.size
            have hbW4 : Below W.heap.size W w4 := HW.out.trans (HB4.out.mono hW0)
            have hbWr : Below W.heap.size W wr := HW.out.trans (HB.out.mono hW0)
            have k5' : w4.cell? ⟨b, o + k * 6 + 5, none⟩ = some (.slice Ab f.body.length cb) := (hbW4.cell (p := ⟨b, o + k * 6 + 5, none⟩) hbW).trans ((hbWr.cell (p := ⟨b, o + k * 6 + 5, none⟩) hbW).symm.trans k5)
            have m0' := (hb4'.cell (p := ⟨w.heap.size, 0, none⟩) hN1l).trans (cellB' HN1.out 0 rfl)
            have hNl4 : w.heap.size < w4.heap.size := Nat.lt_of_lt_of_le hN1l hb4'.size
            have hbl4 : b < w4.heap.size := by omega
            subst hvh'
            clear hal hod4 hoh4 hoh4' hgr4 hfr4 hdis4 hb4' hnw hbW4 hbWr k0 k1 k2 k3 k4 k5 m0 HOD HOH HB HB' hbs hbs' hNl hbl
            go_wp2_with fail
            refine (work_any W nf f.body Ab cb k w4 _ _ ds (hs ++ [m]) (HW.out.trans (HB4.out.mono hW0)) HFB.out HCA.out (by omega) (by rw [hlen4]; omega) (own_ints HOD4.out hdl) (own_ints HOH4.out hlen4) HBD.out HBH4.out (by omega) (by rw [hlen4]; omega)).mono ?_
            rintro e5 w5 ⟨x, hx0, hx1, rfl, hb5⟩
            have HOD5 := Lib.hid (own_below2 HOD4.out hb5)
            have HOH5 := Lib.hid (own_below2 HOH4.out hb5)
            have HB5 := Lib.hid (HB4.out.trans (hb5.mono hbs4))
            have HB5' := Lib.hid (HB4'.out.trans (hb5.mono HB4'.out.size))
            have hbs5' := HB5'.out.size
            have hbs5 := HB5.out.size
            clear hb5 k5' m0' hNl4 hbl4
            have hnw : (w5.alloc (Obj.cells #[Value.int IntKind.i64 x] 3)).cell? ((⟨w5.heap.size, 0, none⟩ : Addr).add 0) = some (.int .i64 x) := by
              have := cellB' (heap_alloc_at w5 (Obj.cells #[Value.int IntKind.i64 x] 3)) 0 rfl
              exact this
            go_wp2_with (at_builtin; go_loud (refine append_int rfl (.tmp 67) (.tmp 69) rfl w1.heap.size _ k _ rfl (HOD5.out.alloc _) ⟨w5.heap.size, 0, none⟩ x rfl hnw (by omega) (by simp; omega) ?_))
            intro vd' w6 hod6 hgr6 hfr6
            have hal : Below w5.heap.size w5 (w5.alloc (Obj.cells #[Value.int IntKind.i64 x] 3)) := (Below.refl _ _).alloc (Nat.le_refl _) _
            have hoh6 := kept_dis (HOH5.out.alloc (Obj.cells #[Value.int IntKind.i64 x] 3)) (vh := Value.slice Ad k cd) (fun g hg hg' => HDIS4.out g hg' hg) hgr6
            have hb6' : Below w1.heap.size w1 w6 := grow_below1 (HB5'.out.trans (hal.mono hbs5')) (by simp; omega) (HOD5.out.alloc (Obj.cells #[Value.int IntKind.i64 x] 3)) hgr6
            have hdis6 : ∀ g, vd'.ownBlock = some g → (Value.slice Ah' (k + 1) ch').ownBlock ≠ some g := fun g hg hg' => by
              rcases hfr6 g hg with h | h
              · exact HDIS4.out g h hg'
              · have := (HOH5.out.lt g hg').2
                first | omega | (simp at h; omega)
            have HOD6 := Lib.hid (show w6.ownsRow w1.heap.size 3 1 vd' (k + 1) ((ds ++ [x]).map (Value.int .i64)) by simpa using hod6)
            have HOH6 := Lib.hid hoh6
            have HDIS6 := Lib.hid hdis6
            have HB6' := Lib.hid hb6'
            clear hal hoh6 hod6 hb6' hdis6 hgr6 hfr6 hnw
            go_wp2_with fail
            exact ⟨⟨k + 1, ds ++ [x], hs ++ [m], hlt, by simp, by simp [hdl], hlen4, big_snoc HBD.out (by omega), HBH4.out, HOD6.out, HOH6.out, HDIS6.out, HB1.out.trans (HB6'.out.mono hbs1), HB6'.out⟩, by simp [intOf]; omega⟩
      · obtain rfl : k = funs.length := by omega
        have e1 : (funs.length : Int) - 1 = ((funs.length - 1 : Nat) : Int) := by omega
        obtain ⟨b1, o1, c1, hx1, hb1, hy1⟩ := int_cell (own_ints HOD.out hdl) (j := funs.length - 1) (by omega)
        obtain ⟨b2, o2, c2, hx2, hb2, hy2⟩ := int_cell (own_ints HOH.out hhl) (j := funs.length - 1) (by omega)
        injection hx1 with hx1 e5 e6
        injection hx2 with hx2 e7 e8
        subst hx1 hx2
        clear e5 e6 e7 e8
        generalize ds[funs.length - 1] = x at hy1
        generalize hs[funs.length - 1] = y at hy2
        go_wp2_with fail
        refine region_qtail 10 (by kernel_rfl) (by kernel_rfl) ?_
        simp only [List.take_succ_cons, List.take_zero, List.drop_succ_cons, List.drop_zero]
        repeat (go_big_quiet_step (fail))
        refine wpQuiet_nil ?_
        intro kq
        go_wp2_with fail
        all_goals (go_ret; exact ⟨_, rfl, Below.drewN' HB.out _⟩)
end Go.Proofs.YtoaajpppbjaomaaGreatDoor
