/- Texts merged by program: parts Cj, Ck, Cl, Qm, Cm. -/
import Derived.Test.YtoaajpppbjaomaaGreatDoorR11
/- The reference's expressions: every one; anew from a frame. -/
namespace Go.Proofs.YtoaajpppbjaomaaGreatDoor
open Go.RowKit
theorem kid_c {W : World} {n : Nat} {vk : Value} {kids : List XE} (h : RepV (RepX W n) 5 W vk kids) :
    ∃ A c, vk = .slice A kids.length c ∧ kids.length ≤ 1048576 ∧ ∀ (j : Nat) x, kids[j]? = some x → ∃ b o p s v vc vk', A = some ⟨b, o, none⟩ ∧ b < W.heap.size ∧ RepX W n x [.int .i64 p, .string s, .int .i64 v, vc, vk'] ∧ KidC W b (o + j * 5) p s v vc vk' := by
  obtain ⟨A, c, hv, h1, h2, h3, h4⟩ := h.get (Below.refl _ _)
  refine ⟨A, c, hv, h3, fun j x hj => ?_⟩
  obtain ⟨b, o, cs, hA, hlt, hlen, hR, hAt⟩ := h4 j x hj
  cases n with
  | zero => exact hR.elim
  | succ n =>
    cases x with
    | mk op name v kids' =>
      have hR' := hR
      obtain ⟨vc, vk', rfl, hs, -, -, -, hk'⟩ := hR
      refine ⟨b, o, op, name, v, vc, vk', hA, hlt, hR', fun {w} hb => ?_⟩
      have hc : ∀ i u, [Value.int .i64 op, .string name, .int .i64 v, vc, vk'][i]? = some u → w.cell? ⟨b, o + j * 5 + i, none⟩ = some u := fun i u hi => (hb.cell (p := ⟨b, o + j * 5 + i, none⟩) hlt).trans (hAt i u hi)
      obtain ⟨A', c', rfl, -⟩ := hk'.sl
      exact ⟨hc 0 _ rfl, hc 1 _ rfl, hc 2 _ rfl, hc 3 _ rfl, hc 4 _ rfl, hs.one, rfl⟩
theorem getv_I64 {vs : Vars} (h : ∀ s v, (s, some v) ∈ vs → I64 v) : ∀ s v, getv vs s = some v → I64 v := by
  intro s v hv
  induction vs with
  | nil => simp [getv] at hv
  | cons a r ih =>
    obtain ⟨t, o⟩ := a
    simp only [getv] at hv
    split at hv
    · subst hv; exact h t v List.mem_cons_self
    · exact ih (fun s v hm => h s v (List.mem_cons_of_mem _ hm)) hv
theorem value_q {W : World} {lo F R M : Nat} {fv : Value} {base : Nat} {mem : Mem} {cnt : Int} {vs : Vars} {vv : Value} :
    ∀ (n : Nat) (e : XE) (cs : List Value) (w : World) (bad : Bool), RepX W n e cs → FrQ W w lo F R M fv base mem cnt vs bad vv →
      Calls Tryz.prog 66 #[.pointer (some ⟨F, 0, none⟩), .agg cs.toArray] w (ValQ W lo F R M fv base mem cnt vs bad vv (value vs mem base e) w) := by
  intro n
  induction n with
  | zero => intro e cs w bad h; exact h.elim
  | succ n ih =>
    intro e cs w bad h hF
    have hvI := getv_I64 hF.vsI
    obtain ⟨op, name, v, kids⟩ := e
    obtain ⟨vc, vk, rfl, hvc0, i1, i2, i3, hk⟩ := h
    have hvc := hvc0.one
    obtain ⟨A, c, rfl, hc3, hcell⟩ := kid_c hk
    match kids, hk, hc3, hcell with
    | [], _, _, _ =>
      by_cases h1 : op = 1
      · subst h1
        have e : value vs mem base (.mk 1 name v []) = some (some v) := by simp [value]
        rw [e]; exact vq_int hF name v vc hvc A c
      by_cases h2 : op = 4
      · subst h2
        have e : value vs mem base (.mk 4 name v []) = some (getv vs name) := by simp [value]
        rw [e]; exact vq_var hF name v vc hvc A c
      by_cases h3 : op = 16
      · subst h3
        by_cases h4 : 0 ≤ v ∧ v < (mem.length : Int) - base
        · have e : value vs mem base (.mk 16 name v []) = some (mem.getD (base + v.toNat) none) := by simp [value, h4]
          have hlt : base + v.toNat < mem.length := by omega
          rw [e]
          exact vq_mem hF name v vc hvc A c h4 _ (by rw [List.getD_eq_getElem?_getD, List.getElem?_eq_getElem hlt]; rfl)
        · have e : value vs mem base (.mk 16 name v []) = none := by simp [value, h4]
          rw [e]; exact vq_memT hF name v vc hvc A c i2 h4
      · have e : value vs mem base (.mk op name v []) = some none := by simp [value, h1, h2, h3]
        rw [e]; exact vq_off0 hF name v vc hvc A c op ⟨h1, h2, h3⟩
    | [a], _, _, hcell =>
      by_cases h1 : op = 5
      · subst h1
        obtain ⟨b, o, p, s, v', vc', vk', rfl, hlt, hR, hK⟩ := hcell 0 a rfl
        simp only [Nat.zero_mul, Nat.add_zero] at hK
        have e : value vs mem base (.mk 5 name v [a]) = (value vs mem base a).map fun x => x.bind fun x => unop name x := by simp [value]
        rw [e]
        exact vq_un hF name v vc hvc b o c hlt p s v' vc' vk' _ hK (fun w' bad' hw' => ih a _ w' bad' hR hw')
      · have e : value vs mem base (.mk op name v [a]) = some none := by simp [value, h1]
        rw [e]; exact vq_offl hF name v vc hvc A c op 1 (by omega) (.inl ⟨rfl, h1⟩)
    | [a, a2], _, _, hcell =>
      by_cases h1 : op = 6
      · subst h1
        obtain ⟨b, o, p, s, v', vc', vk', rfl, hlt, hR, hK⟩ := hcell 0 a rfl
        obtain ⟨b', o', p2, s2, v2, vc2, vk2, hA, hlt2, hR2, hK2⟩ := hcell 1 a2 rfl
        simp only [Option.some.injEq, Addr.mk.injEq, and_true] at hA
        obtain ⟨rfl, rfl⟩ := hA
        simp only [Nat.zero_mul, Nat.add_zero, Nat.one_mul] at hK hK2
        have e : value vs mem base (.mk 6 name v [a, a2]) = (value vs mem base a).bind fun x => (value vs mem base a2).map fun y => x.bind fun x => y.bind fun y => binop name x y := by simp [value]
        rw [e]
        exact vq_bin hF name v vc hvc b o c hlt p s v' vc' vk' _ hK p2 s2 v2 vc2 vk2 _ hK2 (fun x hx => value_I64 hF.memI hvI n a _ x hR hx) (fun x hx => value_I64 hF.memI hvI n a2 _ x hR2 hx)
          (fun w' bad' hw' => ih a _ w' bad' hR hw') (fun w' bad' hw' => ih a2 _ w' bad' hR2 hw')
      · have e : value vs mem base (.mk op name v [a, a2]) = some none := by simp [value, h1]
        rw [e]; exact vq_offl hF name v vc hvc A c op 2 (by omega) (.inr (.inl ⟨rfl, h1⟩))
    | [a, a2, a3], _, _, hcell =>
      by_cases h1 : op = 7
      · subst h1
        obtain ⟨b, o, p, s, v', vc', vk', rfl, hlt, hR, hK⟩ := hcell 0 a rfl
        obtain ⟨b', o', p2, s2, v2, vc2, vk2, hA, hlt2, hR2, hK2⟩ := hcell 1 a2 rfl
        simp only [Option.some.injEq, Addr.mk.injEq, and_true] at hA
        obtain ⟨rfl, rfl⟩ := hA
        obtain ⟨b', o', p3, s3, v3, vc3, vk3, hA, hlt3, hR3, hK3⟩ := hcell 2 a3 rfl
        simp only [Option.some.injEq, Addr.mk.injEq, and_true] at hA
        obtain ⟨rfl, rfl⟩ := hA
        simp only [Nat.zero_mul, Nat.add_zero, Nat.one_mul] at hK hK2
        simp only [show 2 * 5 = 10 from rfl] at hK3
        have e : value vs mem base (.mk 7 name v [a, a2, a3]) = ifS (value vs mem base a) (value vs mem base a2) (value vs mem base a3) := by simp [value, ifS]; rfl
        rw [e]
        exact vq_if hF name v vc hvc b o c hlt p s v' vc' vk' _ hK p2 s2 v2 vc2 vk2 _ hK2 p3 s3 v3 vc3 vk3 _ hK3
          (fun w' bad' hw' => ih a _ w' bad' hR hw') (fun w' bad' hw' => ih a2 _ w' bad' hR2 hw') (fun w' bad' hw' => ih a3 _ w' bad' hR3 hw')
      · have e : value vs mem base (.mk op name v [a, a2, a3]) = some none := by simp [value, h1]
        rw [e]; exact vq_offl hF name v vc hvc A c op 3 (by omega) (.inr (.inr (.inl ⟨rfl, h1⟩)))
    | a :: a2 :: a3 :: a4 :: r, _, hc3, _ =>
      have e : value vs mem base (.mk op name v (a :: a2 :: a3 :: a4 :: r)) = some none := by simp [value]
      rw [e]; exact vq_offl hF name v vc hvc A c op _ hc3 (.inr (.inr (.inr (by simp))))
/-- what a reset does, or that it may not be -/
structure RstQ (W : World) (R M : Nat) (fv : Value) (x : Option Mem) (mem : Mem) (cnt : Int) (w : World) (e : Ending) (w' : World) : Prop where
  yes : ∀ mem', x = some mem' → e = .returned (.bool true) ∧ RMem W w' R M fv mem' false cnt ∧ Keep [M] w w'
  no : x = none → e = .returned (.bool false) ∧ Below w.heap.size w w'
def rstF (funs : List FN) (base : Nat) (at_ fn : Int) (mem : Mem) : Option Mem :=
  if 0 ≤ at_ ∧ at_ ≤ (mem.length : Int) - base ∧ (funs.getD fn.toNat default).cells ≤ (mem.length : Int) - further mem.length base at_ then some (anewF funs funs.length fn.toNat (further mem.length base at_) mem) else none
theorem reset_q {W : World} {funs : List FN} {fv : Value} {nf : Nat} (hrep : RepV (RepF W nf) 6 W fv funs) (hr : RightP funs) {R M : Nat} {mem : Mem} {cnt : Int} (w : World) (base : Nat) (at_ : Int) (k : Nat) (hk : k < funs.length) (hb : base ≤ mem.length) (ha : I64 at_) (hS : RMem W w R M fv mem false cnt) :
    Calls Tryz.prog 25 #[.pointer (some ⟨R, 0, none⟩), .int .i64 k, .int .i64 (addF base at_)] w (RstQ W R M fv (rstF funs base at_ k mem) mem cnt w) := by
  have hml := hS.mlen
  unfold I64 at ha
  unfold rstF
  simp only [Int.toNat_natCast]
  by_cases h1 : 0 ≤ at_ ∧ at_ ≤ (mem.length : Int) - base
  · obtain ⟨a, rfl⟩ := Int.eq_ofNat_of_zero_le h1.1
    have hf : further mem.length base (a : Int) = base + a := by unfold further; rw [if_neg (by omega)]; simp
    have he : addF base (a : Int) = ((base + a : Nat) : Int) := by unfold addF; rw [if_neg (by omega)]; omega
    rw [he, hf]
    have hcl := hr.cells k hk
    by_cases h2 : (funs.getD k default).cells ≤ (mem.length : Int) - ((base + a : Nat) : Int)
    · rw [if_pos ⟨h1.1, h1.2, h2⟩]
      refine (anewq_any hrep hr funs.length k (base + a) mem w hk hk (by omega) hS).mono ?_
      rintro e w' ⟨rfl, h3, h4⟩
      exact ⟨fun mem' hm => by injection hm with hm; subst hm; exact ⟨rfl, h3, h4⟩, fun h => by cases h⟩
    · rw [if_neg (fun h => h2 h.2.2)]
      refine (anewq_no hrep hr k ((base + a : Nat) : Int) w hk (.inr (.inr (by omega))) (by unfold I64; omega) hS).mono ?_
      rintro e w' ⟨rfl, h3⟩
      exact ⟨fun mem' hm => (by cases hm), fun _ => ⟨rfl, h3⟩⟩
  · rw [if_neg (fun h => h1 ⟨h.1, h.2.1⟩)]
    have hcl := hr.cells k hk
    refine (anewq_no hrep hr k (addF base at_) w hk ?_ (by unfold I64 addF; split <;> omega) hS).mono ?_
    · unfold addF
      split
      · exact .inl (by omega)
      · exact .inr (.inl (by omega))
    · rintro e w' ⟨rfl, h3⟩
      exact ⟨fun mem' hm => (by cases hm), fun _ => ⟨rfl, h3⟩⟩
theorem doReset_rst {funs : List FN} {base : Nat} {at_ fn : Int} {st : St} : doReset funs base at_ fn st = match rstF funs base at_ fn st.mem with
    | some mem => (true, { st with mem := mem })
    | none => (false, st) := by
  unfold doReset rstF
  split <;> rfl
end Go.Proofs.YtoaajpppbjaomaaGreatDoor
/- The reference's statements: what they are held to; choose. -/
namespace Go.Proofs.YtoaajpppbjaomaaGreatDoor
open Go.RowKit
/-! ### how many names statements set -/
mutual
def wL : List FS → Nat
  | [] => 0
  | s :: r => wS s + wL r
def wS : FS → Nat
  | .mk _ _ _ _ names _ _ arms => 1 + names.length + wAs arms
def wAs : List FA → Nat
  | [] => 0
  | a :: r => wA a + wAs r
def wA : FA → Nat
  | .mk _ body => wL body
end
theorem wA_body (a : FA) : wA a = wL a.body := by cases a; rfl
theorem wAs_get : ∀ (l : List FA) (j : Nat) (a : FA), l[j]? = some a → wA a ≤ wAs l
  | [], _, _, h => by simp at h
  | a :: r, 0, b, h => by simp at h; subst h; simp only [wAs]; omega
  | a :: r, j + 1, b, h => by
    have := wAs_get r j b (by simpa using h)
    simp only [wAs]; omega
theorem doStep_vlen (I : Inst) (funs : List FN) (base : Nat) (at_ fn : Int) (names : List ByteArray) (args : List XE) (st : St) : (doStep I funs base at_ fn names args st).2.vs.length ≤ st.vs.length + names.length := by
  unfold doStep
  simp only
  split
  · split
    · simp only; omega
    · split
      · simp only; omega
      · rename_i out _ _ _
        simp only
        exact setvs_len _ _ _
  · simp only; omega
mutual
theorem doL_vlen (I : Inst) (funs : List FN) (base : Nat) : ∀ (l : List FS) (st : St), (doL I funs base l st).2.vs.length ≤ st.vs.length + wL l
  | [], st => by simp [doL]
  | s :: r, st => by
    have h1 := doS_vlen I funs base s { st with cnt := wrap64 (st.cnt + 1) }
    unfold doL
    split
    · rename_i st' h'
      rw [h'] at h1
      simp only at h1
      have h2 := doL_vlen I funs base r st'
      simp only [wL]
      omega
    · rename_i st' h'
      rw [h'] at h1
      simp only at h1
      simp only [wL]
      omega
theorem doS_vlen (I : Inst) (funs : List FN) (base : Nat) : ∀ (s : FS) (st : St), (doS I funs base s st).2.vs.length ≤ st.vs.length + wS s
  | .mk op name at_ fn names e args arms, st => by
    unfold doS
    simp only [wS]
    split
    · unfold doSet
      split
      · simp only; omega
      · simp only
        have := setv_len st.vs name
        rename_i o _
        have := this o
        omega
    split
    · unfold doKeep
      split
      · split <;> (simp only; omega)
      · simp only; omega
    split
    · have := doStep_vlen I funs base at_ fn names args st
      omega
    split
    · unfold doReset
      split <;> (simp only; omega)
    split
    · split
      · simp only; omega
      · rename_i v _
        have := doAs_vlen I funs base arms v st
        omega
    · simp only; omega
theorem doAs_vlen (I : Inst) (funs : List FN) (base : Nat) : ∀ (l : List FA) (v : Int) (st : St), (doAs I funs base l v st).2.vs.length ≤ st.vs.length + wAs l
  | [], v, st => by simp [doAs]
  | a :: r, v, st => by
    unfold doAs
    simp only [wAs]
    split
    · have := doA_vlen I funs base a st
      omega
    · have := doAs_vlen I funs base r v st
      omega
theorem doA_vlen (I : Inst) (funs : List FN) (base : Nat) : ∀ (a : FA) (st : St), (doA I funs base a st).2.vs.length ≤ st.vs.length + wA a
  | .mk n body, st => by
    unfold doA
    simp only [wA]
    exact doL_vlen I funs base body st
end
/-! ### contracts -/
structure StQ (W : World) (lo F R M : Nat) (fv : Value) (base : Nat) (r : Bool × St) (w : World) (e : Ending) (w' : World) : Prop where
  keep : KeepV lo [R, M, F] w w'
  yes : r.1 = true → e = .returned (.bool true) ∧ ∃ vv, FrQ W w' lo F R M fv base r.2.mem r.2.cnt r.2.vs false vv
  no : r.1 = false → e = .returned (.bool false) ∧ RMem W w' R M fv r.2.mem false r.2.cnt
def DoQC (W : World) (lo F R M : Nat) (fv : Value) (base : Nat) (I : Inst) (funs : List FN) (K n : Nat) : Prop :=
  ∀ (l : List FS) (A : Option Addr) (c : Nat) (w : World) (st : St) (vv : Value), FrQ W w lo F R M fv base st.mem st.cnt st.vs false vv → callsL l K = true → RepV (RepS W n) 12 W (.slice A l.length c) l → st.vs.length + wL l ≤ 1048576 →
    Calls Tryz.prog 43 #[.pointer (some ⟨F, 0, none⟩), .slice A l.length c] w (StQ W lo F R M fv base (doL I funs base l st) w)
theorem doAsQ_at (I : Inst) (funs : List FN) (base : Nat) (v : Int) (st : St) : ∀ (l : List FA) (j : Nat) (a : FA), l[j]? = some a → a.n = v → (∀ (x : Nat) (b : FA), x < j → l[x]? = some b → b.n ≠ v) → doAs I funs base l v st = doL I funs base a.body st
  | [], _, _, h, _, _ => by simp at h
  | b :: r, 0, a, h, hv, _ => by
    simp at h; subst h
    unfold doAs
    rw [if_pos hv]
    cases b; rfl
  | b :: r, j + 1, a, h, hv, hn => by
    unfold doAs
    rw [if_neg (hn 0 b (by omega) rfl)]
    exact doAsQ_at I funs base v st r j a (by simpa using h) hv (fun x c hx hc => hn (x + 1) c (by omega) (by simpa using hc))
theorem doAsQ_none (I : Inst) (funs : List FN) (base : Nat) (v : Int) (st : St) : ∀ (l : List FA), (∀ (x : Nat) (b : FA), l[x]? = some b → b.n ≠ v) → doAs I funs base l v st = (true, st)
  | [], _ => by unfold doAs; rfl
  | b :: r, hn => by
    unfold doAs
    rw [if_neg (hn 0 b rfl)]
    exact doAsQ_none I funs base v st r (fun x c hc => hn (x + 1) c (by simpa using hc))
theorem callsAs_get : ∀ (l : List FA) (K : Nat) (j : Nat) (a : FA), callsAs l K = true → l[j]? = some a → callsL a.body K = true
  | [], _, _, _, _, h => by simp at h
  | b :: r, K, 0, a, hc, h => by
    simp at h; subst h
    unfold callsAs at hc
    rw [Bool.and_eq_true] at hc
    cases b
    unfold callsA at hc
    exact hc.1
  | b :: r, K, j + 1, a, hc, h => by
    unfold callsAs at hc
    rw [Bool.and_eq_true] at hc
    exact callsAs_get r K j a hc.2 (by simpa using h)
def ChRel (arms : List FA) (v : Int) (w4 : World) (i : Value) (wr : World) : Prop := ∃ j : Nat, j ≤ arms.length ∧ i = .int .i64 j ∧ (∀ (x : Nat) (b : FA), x < j → arms[x]? = some b → b.n ≠ v) ∧ Below w4.heap.size w4 wr
def stA (op : Int) (name : ByteArray) (at_ fn : Int) (aN : Option Addr) (lN cN : Nat) (eo : Int) (en : ByteArray) (ev : Int) (aC : Option Addr) (lC cC : Nat) (aK : Option Addr) (lK cK : Nat) (aA : Option Addr) (lA cA : Nat) (aR : Option Addr) (lR cR : Nat) : Array Value :=
  #[.int .i64 op, .string name, .int .i64 at_, .int .i64 fn, .slice aN lN cN, .int .i64 eo, .string en, .int .i64 ev, .slice aC lC cC, .slice aK lK cK, .slice aA lA cA, .slice aR lR cR]
def chooseF (I : Inst) (funs : List FN) (base : Nat) (arms : List FA) (name : ByteArray) (st : St) : Bool × St := match getv st.vs name with
  | none => (false, st)
  | some v => doAs I funs base arms v st
theorem chooseF_none {I : Inst} {funs : List FN} {base : Nat} {arms : List FA} {name : ByteArray} {st : St} (h : getv st.vs name = none) : chooseF I funs base arms name st = (false, st) := by unfold chooseF; rw [h]
theorem chooseF_some {I : Inst} {funs : List FN} {base : Nat} {arms : List FA} {name : ByteArray} {st : St} {v : Int} (h : getv st.vs name = some v) : chooseF I funs base arms name st = doAs I funs base arms v st := by unfold chooseF; rw [h]
set_option maxRecDepth 100000 in
set_option maxHeartbeats 2000000 in
theorem choose_q {W w : World} {lo F R M : Nat} {fv : Value} {base : Nat} {I : Inst} {funs : List FN} {K n : Nat} (HD : DoQC W lo F R M fv base I funs K n) {st : St} {vv : Value} (h : FrQ W w lo F R M fv base st.mem st.cnt st.vs false vv)
    (name : ByteArray) (at_ fn : Int) (aN : Option Addr) (lN cN : Nat) (eo : Int) (en : ByteArray) (ev : Int) (aC : Option Addr) (lC cC : Nat) (aK : Option Addr) (lK cK : Nat) (aA : Option Addr) (lA cA : Nat) (aR : Option Addr) (cR : Nat) (arms : List FA)
    (hc : callsAs arms K = true) (hr : RepV (RepA (RepS W n) W) 2 W (.slice aR arms.length cR) arms) (hn : st.vs.length + wAs arms ≤ 1048576) :
    Calls Tryz.prog 70 #[.pointer (some ⟨F, 0, none⟩), .agg (stA 5 name at_ fn aN lN cN eo en ev aC lC cC aK lK cK aA lA cA aR arms.length cR)] w
      (StQ W lo F R M fv base (chooseF I funs base arms name st) w) := by
  have hrl := hr.1
  have HR := Lib.hid hr
  have HDO := Lib.hid HD
  have HC := Lib.hid hc
  have hlo : lo ≤ w.heap.size := by have := lt_of_block h.hF; have := h.geF; omega
  generalize hcf : chooseF I funs base arms name st = cf
  have HCF := Lib.hid hcf
  clear hr HD hc hcf
  unfold stA
  go_enter Tryz.func70, Tryz.ntmps70
  go_upto_region 1 with fail
  obtain ⟨w2, hw2⟩ : ∃ w2, w2 = w.alloc (Obj.cells #[.int .i64 5, .string name, .int .i64 at_, .int .i64 fn, .slice aN lN cN, .int .i64 eo, .string en, .int .i64 ev, .slice aC lC cC, .slice aK lK cK, .slice aA lA cA, .slice aR arms.length cR] 88) := ⟨_, rfl⟩
  rw [← hw2]
  have hb2 : Below w.heap.size w w2 := by rw [hw2]; exact (Below.refl _ _).alloc (Nat.le_refl _) _
  have hN : w2.heap[w.heap.size]? = some (Obj.cells #[.int .i64 5, .string name, .int .i64 at_, .int .i64 fn, .slice aN lN cN, .int .i64 eo, .string en, .int .i64 ev, .slice aC lC cC, .slice aK lK cK, .slice aA lA cA, .slice aR arms.length cR] 88 (0, 0)) := by rw [hw2]; exact heap_alloc_at _ _
  have H2 := Lib.hid (h.on hb2)
  have HB2 := Lib.hid hb2
  have HN2 := Lib.hid hN
  have n1 := cellB' hN 1 rfl
  have hNl := lt_of_block hN
  clear hw2 hb2 hN h
  go_wp2_with fail
  refine (get_q H2.out name).mono ?_
  rintro e w3 ⟨rfl, hb3⟩
  have H3 := Lib.hid (H2.out.on hb3)
  have HB3 := Lib.hid (HB2.out.trans (hb3.mono HB2.out.size))
  have HN3 := Lib.hid ((hb3.block _ hNl).trans HN2.out)
  clear hb3 n1
  generalize hgv : getv st.vs name = gv
  have HGV := Lib.hid hgv
  clear hgv
  unfold cellQ
  go_upto_region 2 with fail
  obtain ⟨w4, hw4⟩ : ∃ w4, w4 = w3.alloc (Obj.cells #[.bool gv.isSome, .int .i64 (gv.getD 0)] 75) := ⟨_, rfl⟩
  rw [← hw4]
  have hb4 : Below w3.heap.size w3 w4 := by rw [hw4]; exact (Below.refl _ _).alloc (Nat.le_refl _) _
  have hG : w4.heap[w3.heap.size]? = some (Obj.cells #[.bool gv.isSome, .int .i64 (gv.getD 0)] 75 (0, 0)) := by rw [hw4]; exact heap_alloc_at _ _
  have H4 := Lib.hid (H3.out.on hb4)
  have HB4 := Lib.hid (HB3.out.trans (hb4.mono HB3.out.size))
  have HN4 := Lib.hid ((hb4.block _ (lt_of_block HN3.out)).trans HN3.out)
  have HG := Lib.hid hG
  have g0 := cellB' hG 0 rfl
  have g1 := cellB' hG 1 rfl
  have hGl := lt_of_block hG
  clear hw4 hb4 hG
  cases gv with
  | none =>
    have E := Lib.hid (HCF.out.symm.trans (chooseF_none HGV.out))
    go_wp2_with fail
    go_ret
    rw [E.out]
    exact ⟨.of_below HB4.out, fun h => (by cases h), fun _ => ⟨rfl, H4.out.rm⟩⟩
  | some v =>
    simp only [Option.getD_some, Option.isSome_some] at g0 g1
    go_wp2_with fail
    go_loopw [6] (fun i wr => ChRel arms v w4 i wr) (fun i _ => arms.length - (intOf i).toNat)
    case atStart => exact ⟨0, Nat.zero_le _, rfl, fun x b hx => by omega, Below.refl _ _⟩
    case round =>
      obtain ⟨j, hj, rfl, hne, hb⟩ := hrel
      have HNE := Lib.hid hne
      have HB := Lib.hid hb
      have HNr := Lib.hid ((hb.block _ (lt_of_block HN4.out)).trans HN4.out)
      have HGr := Lib.hid ((hb.block _ hGl).trans HG.out)
      have H5 := Lib.hid (H4.out.on hb)
      have n11 := cellB' HNr.out 11 rfl
      have hNr := lt_of_block HNr.out
      have g1 := cellB' HGr.out 1 rfl
      have hGr := lt_of_block HGr.out
      clear hne hb
      by_cases hlt : j < arms.length
      · obtain ⟨_, _, he, _, _, _, hget⟩ := HR.out.get H5.out.rm.below
        obtain ⟨bR, oR, cs, hA, hbR, _, ⟨vb, rfl, hnI, hbody⟩, hAt⟩ := hget j _ (List.getElem?_eq_getElem hlt)
        injection he with he1 he2 he3
        subst he1
        subst hA
        clear he2 he3
        have k0 : wr.cell? ⟨bR, oR + j * 2, none⟩ = some (.int .i64 arms[j].n) := hAt 0 _ rfl
        have k1 : wr.cell? ⟨bR, oR + j * 2 + 1, none⟩ = some vb := hAt 1 _ rfl
        have hbl : bR < wr.heap.size := Nat.lt_of_lt_of_le hbR H5.out.rm.below.size
        obtain ⟨Ab, cb, rfl, -⟩ := hbody.sl
        have HGJ := Lib.hid (List.getElem?_eq_getElem hlt)
        have HBO := Lib.hid hbody
        clear hget hAt hbody hnI
        generalize arms[j] = a at k0 k1 HGJ HBO
        by_cases hav : a.n = v
        · have d1 : (a.n == v) = true := by simp [hav]
          have E := Lib.hid ((HCF.out.symm.trans (chooseF_some HGV.out)).trans (doAsQ_at I funs base v st arms j a HGJ.out hav HNE.out))
          have hwa := wAs_get arms j a HGJ.out
          rw [wA_body] at hwa
          go_wp2_with fail
          go_quiet (fail)
          have H6 := Lib.hid (H5.out.on (Below.drewN' (Below.refl wr.heap.size wr) nq))
          have HK6 := Lib.hid (KeepV.of_below (lo := lo) (S := [R, M, F]) (HB4.out.trans ((Below.drewN' HB.out nq).mono HB4.out.size)))
          go_wp2_with fail
          refine (HDO.out a.body Ab cb _ st _ H6.out (callsAs_get arms K j a HC.out HGJ.out) HBO.out (by omega)).mono ?_
          intro e w7 hP
          rw [← E.out] at hP
          obtain ⟨b, st'⟩ := cf
          cases b with
          | true =>
            obtain ⟨rfl, vv', hf⟩ := hP.yes rfl
            have HP := Lib.hid hP
            clear hP
            go_wp2_with fail
            go_ret
            exact ⟨HK6.out.trans HP.out.keep, fun _ => ⟨rfl, vv', hf⟩, fun h => by cases h⟩
          | false =>
            obtain ⟨rfl, hf⟩ := hP.no rfl
            have HP := Lib.hid hP
            clear hP
            go_wp2_with fail
            go_ret
            exact ⟨HK6.out.trans HP.out.keep, fun h => (by cases h), fun _ => ⟨rfl, hf⟩⟩
        · have d1 : (a.n == v) = false := by simpa using hav
          go_wp2_with fail
          go_quiet (fail)
          go_wp2_with fail
          refine ⟨⟨j + 1, hlt, by simp, fun x y hx hy => ?_, Below.drewN' HB.out _⟩, by simp [intOf]; omega⟩
          rcases Nat.lt_or_ge x j with h | h
          · exact HNE.out x y h hy
          · obtain rfl : x = j := by omega
            rw [HGJ.out] at hy
            simp only [Option.some.injEq] at hy
            subst hy
            exact hav
      · obtain rfl : j = arms.length := by omega
        have E := Lib.hid ((HCF.out.symm.trans (chooseF_some HGV.out)).trans (doAsQ_none I funs base v st arms (fun x b hb => HNE.out x b (List.getElem?_eq_some_iff.1 hb).1 hb)))
        go_wp2_with fail
        go_ret
        rw [E.out]
        exact ⟨.of_below (HB4.out.trans (HB.out.mono HB4.out.size)), fun _ => ⟨rfl, _, H5.out⟩, fun h => by cases h⟩
end Go.Proofs.YtoaajpppbjaomaaGreatDoor
/- The reference's step. -/
namespace Go.Proofs.YtoaajpppbjaomaaGreatDoor
open Go.RowKit
structure InstPQ (W : World) (R M : Nat) (fv : Value) (len : Nat) (r : Option (List Int) × Mem × Int) (w : World) (e : Ending) (w' : World) : Prop where
  keep : Keep [R, M] w w'
  mlen : r.2.1.length = len
  yes : ∀ out, r.1 = some out → (∃ v, e = .returned (.tuple #[v, .bool true]) ∧ w'.ownsRow w.heap.size 2 1 v out.length (out.map (Value.int .i64))) ∧ RMem W w' R M fv r.2.1 false r.2.2 ∧ (∀ v, some v ∈ r.2.1 → I64 v) ∧ (∀ v, v ∈ out → I64 v)
  no : r.1 = none → e = .returned (.tuple #[.slice none 0 0, .bool false]) ∧ RMem W w' R M fv r.2.1 false r.2.2
def EffB (len : Nat) (bi : Int) (be : Nat) : Prop := (0 ≤ bi ∧ bi ≤ (len : Int) ∧ (be : Int) = bi) ∨ ((bi < 0 ∨ (len : Int) < bi) ∧ be = len)
def InstQC (W : World) (R M : Nat) (fv : Value) (I : Inst) (funs : List FN) (K : Nat) : Prop :=
  ∀ (k : Nat) (w : World) (bi : Int) (be : Nat) (mem : Mem) (cnt : Int) (ins : List Int) (vi : Value), k < K → RMem W w R M fv mem false cnt → EffB mem.length bi be → I64 bi → (∀ v, some v ∈ mem → I64 v) → Ints w vi ins → (∀ v, v ∈ ins → I64 v) → ins.length = (funs.getD k default).params.length →
    (∀ x, x ∈ [R, M] → ∀ o n c, 0 < n → vi ≠ .slice (some ⟨x, o, none⟩) n c) →
    Calls Tryz.prog 30 #[.pointer (some ⟨R, 0, none⟩), .int .i64 k, .int .i64 bi, vi] w (InstPQ W R M fv mem.length (I k be ins mem cnt) w)
theorem effB_add {len base : Nat} {at_ : Int} (hb : base ≤ len) (hl : len ≤ 1000) : EffB len (addF base at_) (further len base at_) := by
  unfold EffB addF further
  split <;> split <;> omega
theorem own_keepV {lo : Nat} {S : List Nat} {w w' : World} {B : Nat} {e : TypeId} {sz : Nat} {v : Value} {n : Nat} {xs : List Value} (h : w.ownsRow B e sz v n xs) (hk : KeepV lo S w w') (hS : ∀ x, x ∈ S → x < B) (he : e ≠ 127) : w'.ownsRow B e sz v n xs := by
  refine ⟨h.1, ?_⟩
  rcases h.2 with h2 | ⟨g, cap, cur, hv, hg, hh, r⟩
  · exact .inl h2
  · exact .inr ⟨g, cap, cur, hv, hg, hk.cells hh (fun hm => by have := hS g hm; omega) he, r⟩
theorem FrQ.newMem {W w w' : World} {lo F R M : Nat} {fv : Value} {base : Nat} {mem mem' : Mem} {cnt cnt' : Int} {vs : Vars} {bad : Bool} {vv : Value} (h : FrQ W w lo F R M fv base mem cnt vs bad vv) (hk : Keep [R, M] w w') (hr : RMem W w' R M fv mem' false cnt') (hl : mem'.length = mem.length) (hi : ∀ v, some v ∈ mem' → I64 v) : FrQ W w' lo F R M fv base mem' cnt' vs bad vv :=
  { h with
    rm := hr
    hF := (hk.block F (lt_of_block h.hF) (by have := h.FR; have := h.FM; simp; omega)).trans h.hF
    own := own_keep h.own hk (fun x hx => by have := h.ltR; have := h.ltM; simp at hx; omega)
    blen := by rw [hl]; exact h.blen
    memI := hi }
theorem own_intsQ {w : World} {B : Nat} {e : TypeId} {v : Value} {k : Nat} {l : List Int} (h : w.ownsRow B e 1 v k (l.map (Value.int .i64))) (hl : l.length = k) : Ints w v l := by
  subst hl; exact ints_of_own h
def ArgQ (W : World) (lo F R M : Nat) (fv : Value) (base : Nat) (st : St) (vv : Value) (args : List XE) (w2 : World) (v6 v7 i : Value) (wr : World) : Prop :=
  ∃ (j : Nat) (vals : List Int) (on : Bool), j ≤ args.length ∧ i = .int .i64 j ∧ v7 = .bool on ∧ vals.length = j ∧ (∀ v, v ∈ vals → I64 v) ∧ (on = true → evalArgs st.vs st.mem base (args.take j) = some vals) ∧ (on = false → evalArgs st.vs st.mem base args = none) ∧
    wr.ownsRow w2.heap.size 2 1 v6 j (vals.map (Value.int .i64)) ∧ FrQ W wr lo F R M fv base st.mem st.cnt st.vs false vv ∧ KeepV lo [F] w2 wr
def SetQ (W : World) (lo F R M : Nat) (fv : Value) (base : Nat) (mem : Mem) (cnt : Int) (vs : Vars) (names : List ByteArray) (out : List Int) (w5 : World) (i : Value) (wr : World) : Prop :=
  ∃ (j : Nat) (vv : Value), j ≤ out.length ∧ i = .int .i64 j ∧ FrQ W wr lo F R M fv base mem cnt (setvs vs (names.take j) (out.take j)) false vv ∧ KeepV lo [F] w5 wr
theorem evalArgsQ_bad {vs : Vars} {mem : Mem} {base : Nat} : ∀ {l : List XE} {j : Nat} {a : XE}, l[j]? = some a → (∀ v, value vs mem base a ≠ some (some v)) → evalArgs vs mem base l = none
  | [], _, _, h, _ => by simp at h
  | x :: r, 0, a, h, hv => by
    simp at h; subst h
    unfold evalArgs
    split
    · rename_i v e; exact absurd e (hv v)
    · rfl
  | x :: r, j + 1, a, h, hv => by
    unfold evalArgs
    rw [evalArgsQ_bad (l := r) (j := j) (by simpa using h) hv]
    split <;> rfl
theorem setvsQ_snoc : ∀ (l : List ByteArray) (vals : List Int) (vs : Vars) (s : ByteArray) (v : Int), l.length = vals.length → setvs vs (l ++ [s]) (vals ++ [v]) = setv (setvs vs l vals) s (some v)
  | [], [], vs, s, v, _ => rfl
  | [], _ :: _, _, _, _, h => by simp at h
  | _ :: _, [], _, _, _, h => by simp at h
  | a :: l, x :: vals, vs, s, v, h => by
    simp only [List.cons_append, setvs]
    exact setvsQ_snoc l vals _ s v (by simpa using h)
theorem doStepQ_len {I : Inst} {funs : List FN} {base : Nat} {at_ : Int} {k : Nat} {names : List ByteArray} {args : List XE} {st : St} {f : FN} (hf : funs.getD k default = f) (h : ¬ (f.params.length = args.length ∧ f.results.length = names.length)) : doStep I funs base at_ (k : Int) names args st = (false, st) := by
  unfold doStep
  simp only [Int.toNat_natCast, hf]
  rw [if_neg h]
theorem doStepQ_none {I : Inst} {funs : List FN} {base : Nat} {at_ : Int} {k : Nat} {names : List ByteArray} {args : List XE} {st : St} (h : evalArgs st.vs st.mem base args = none) : doStep I funs base at_ (k : Int) names args st = (false, st) := by
  unfold doStep
  simp only [h]
  split <;> rfl
theorem doStepQ_no {I : Inst} {funs : List FN} {base : Nat} {at_ : Int} {k : Nat} {names : List ByteArray} {args : List XE} {st : St} {f : FN} (hf : funs.getD k default = f) (hl : f.params.length = args.length ∧ f.results.length = names.length) {vals : List Int} (h : evalArgs st.vs st.mem base args = some vals) {mem' : Mem} {cnt' : Int}
    (hi : I k (further st.mem.length base at_) vals st.mem st.cnt = (none, mem', cnt')) : doStep I funs base at_ (k : Int) names args st = (false, { st with mem := mem', cnt := cnt' }) := by
  unfold doStep
  simp only [Int.toNat_natCast, hf, h, hi]
  rw [if_pos hl]
theorem doStepQ_yes {I : Inst} {funs : List FN} {base : Nat} {at_ : Int} {k : Nat} {names : List ByteArray} {args : List XE} {st : St} {f : FN} (hf : funs.getD k default = f) (hl : f.params.length = args.length ∧ f.results.length = names.length) {vals : List Int} (h : evalArgs st.vs st.mem base args = some vals) {mem' : Mem} {cnt' : Int} {out : List Int}
    (hi : I k (further st.mem.length base at_) vals st.mem st.cnt = (some out, mem', cnt')) : doStep I funs base at_ (k : Int) names args st = (true, { mem := mem', cnt := cnt', vs := setvs st.vs names out }) := by
  unfold doStep
  simp only [Int.toNat_natCast, hf, h, hi]
  rw [if_pos hl]
theorem KeepV.grown {lo : Nat} {S : List Nat} {a w w' : World} (h : KeepV lo S a w) {o : Obj} {B : Nat} {e : TypeId} {sz n : Nat} {v : Value} {xs : List Value} (hv : (w.alloc o).ownsRow B e sz v n xs) (hg : (w.alloc o).grownBy w' v.ownBlock) (hB : a.heap.size ≤ B) : KeepV lo S a w' := by
  have h1 : KeepV lo S a (w.alloc o) := h.trans (.of_below ((Below.refl _ _).alloc (Nat.le_refl _) _))
  have hk := keep_of_grown hg
  refine ⟨hk.os.trans h1.os, hk.tape.trans h1.tape, hk.output.trans h1.output, Nat.le_trans h1.size hk.size, fun k ob hkk hn ho => ?_⟩
  have h2 := h1.block k ob hkk hn ho
  refine (hk.block k (Array.getElem?_eq_some_iff.1 h2).1 (fun hm => ?_)).trans h2
  cases hvb : v.ownBlock with
  | none => rw [hvb] at hm; simp at hm
  | some g =>
    rw [hvb] at hm
    simp at hm
    subst hm
    have := (hv.lt _ hvb).1
    have := (Array.getElem?_eq_some_iff.1 hkk).1
    omega
theorem FrQ.grown2 {W w w' : World} {lo F R M : Nat} {fv : Value} {base : Nat} {mem : Mem} {cnt : Int} {vs : Vars} {bad : Bool} {vv : Value} (h : FrQ W w lo F R M fv base mem cnt vs bad vv) {o : Obj} {B : Nat} {e : TypeId} {sz n : Nat} {v : Value} {xs : List Value}
    (hv : (w.alloc o).ownsRow B e sz v n xs) (he : e ≠ 127) (hg : (w.alloc o).grownBy w' v.ownBlock) (hB : F < B) : FrQ W w' lo F R M fv base mem cnt vs bad vv := by
  have h1 := h.on ((Below.refl w.heap.size w).alloc (Nat.le_refl _) o)
  refine h1.setNew (keep_of_grown hg) (fun x hx => ?_)
  cases hvb : v.ownBlock with
  | none => rw [hvb] at hx; simp at hx
  | some g =>
    rw [hvb] at hx
    simp at hx
    subst hx
    have h2 := (hv.lt _ hvb).1
    have := h.geF
    have := h.geL
    have := h.ltR
    have := h.ltM
    exact ⟨by omega, by omega, by omega, by omega, own_apart hv h1.own he _ hvb⟩
end Go.Proofs.YtoaajpppbjaomaaGreatDoor
/- A drawn region: n quiet operations, one that is loud (a call), and quiet ones behind it: the quiet ones may be walked in the text's order. -/
namespace Go.Proofs.YtoaajpppbjaomaaGreatDoor
open Go
/-- each of the tail's later operations waits for an earlier one of the tail -/
def waitsB (md : Region.Mode) (ops : Array Oper) (n : Nat) : Bool :=
  (List.range ops.size).all fun t => decide (t ≤ n) || (List.range t).any fun s => decide (n ≤ s) && Region.waitsFor md ops t s
def midHead (md : Region.Mode) (ops : Array Oper) (g : Nat) : Nat → Nat → Array Bool → Bool
  | 0, k, listed => decide (Region.ready md ops listed = [k]) && Region.lexFrom md ops g (k + 1) (listed.setIfInBounds k true)
  | f + 1, k, listed => (Region.ready md ops listed).contains k && Region.free md ops listed k && midHead md ops g f (k + 1) (listed.setIfInBounds k true)
def midB (md : Region.Mode) (ops : Array Oper) (n : Nat) : Bool :=
  Region.noSelect ops && decide (n < ops.size) && Region.sinkB md ops n && waitsB md ops n && midHead md ops (ops.size - n - 1) n 0 (Array.replicate ops.size false)
section
variable {P : Program} {md : Region.Mode} {ops : Array Oper} {C : World → Prop}
theorem mid_waits {n : Nat} {listed : Array Bool} (hs : Region.sinkB md ops n = true) (hc : waitsB md ops n = true) (hn : n < ops.size) (inv : HeadInv md ops n listed) :
    ∀ (d i : Nat), n - i = d → i < n → listed.getD i true = false → ∀ t, n ≤ t → t ∉ Region.ready md ops listed := by
  intro d
  induction d using Nat.strongRecOn with
  | _ d ih =>
    intro i hd hi hun t ht hr
    obtain ⟨_, ot, hot, hall⟩ := mem_ready.1 hr
    have htlt : t < ops.size := (Array.getElem?_eq_some_iff.1 hot).1
    by_cases htn : t = n
    · subst htn
      have h1 := List.all_eq_true.1 hs i (List.mem_range.2 hi)
      obtain ⟨j, hj, hj2⟩ := List.any_eq_true.1 h1
      simp only [Bool.and_eq_true, decide_eq_true_eq] at hj2
      obtain ⟨oj, hoj, e, he, hb, hon⟩ := Region.waitsFor_spec hj2.2
      have hjle : j ≤ t := by have := List.mem_range.1 hj; omega
      by_cases hjt : j = t
      · subst hjt
        have : oj = ot := Option.some.inj (hoj.symm.trans hot)
        subst this
        have h2 := hall e he hb
        rw [hon, getD_both hun] at h2
        cases h2
      · cases hl : listed.getD j false with
        | true =>
          have h2 := inv.closed j oj hoj hl e he hb
          rw [hon, getD_both hun] at h2
          cases h2
        | false =>
          have hjs : j < listed.size := by rw [inv.size]; omega
          exact ih (t - j) (by omega) j rfl (by omega) (getD_in hjs hl) t (Nat.le_refl _) hr
    · have h1 := List.all_eq_true.1 hc t (List.mem_range.2 htlt)
      simp only [Bool.or_eq_true, decide_eq_true_eq] at h1
      rcases h1 with h1 | h1
      · omega
      · obtain ⟨s, hs1, hs2⟩ := List.any_eq_true.1 h1
        simp only [Bool.and_eq_true, decide_eq_true_eq] at hs2
        obtain ⟨o', ho', e, he, hb, hon⟩ := Region.waitsFor_spec hs2.2
        have : o' = ot := Option.some.inj (ho'.symm.trans hot)
        subst this
        have h2 := hall e he hb
        have hst := List.mem_range.1 hs1
        rw [hon, getD_both (inv.tail s hs2.1 (by omega))] at h2
        cases h2
theorem qmid_first {n i : Nat} {oi : Oper} {v : Value} {L : Array Bool → Act → Prop} (hi : ops[i]? = some oi) (hsel : ∀ (j : Nat) (o : Oper) cs b, ops[j]? = some o → o.op ≠ .select cs b)
    (hs : Region.sinkB md ops n = true) (hc : waitsB md ops n = true) (hn : n < ops.size) (hin : i < n)
    (hL : ∀ done a, L done a → ∀ j ∈ Region.ready md ops done, n ≤ j) (f : Nat) :
    ∀ (done : Array Bool) (a : Act), HeadInv md ops n done →
      (∀ j oj, ops[j]? = some oj → j ≠ i → done.getD j true = false → (∀ e ∈ oj.after, Region.binds md e = true → e.on ≠ i) → oi.apart ops oj = true) →
      i ∈ Region.ready md ops done → YieldsIn P ops C oi v a →
      QHead P md ops C n L f (done.setIfInBounds i true) (a.put oi.dst v) → QHead P md ops C n L (f + 1) done a := by
  induction f with
  | zero =>
    intro done a inv _ hr hy H
    have hun := (mem_ready.1 hr).1
    refine ⟨List.ne_nil_of_mem hr, fun j hj => ?_⟩
    have hjn : j < n := Nat.lt_of_not_le fun h => mid_waits hs hc hn inv _ i rfl hin hun j h hj
    refine ⟨hjn, ?_⟩
    by_cases hji : j = i
    · rw [hji]; exact hy.qOp hi H
    · exact absurd (hL _ _ H j (ready_mono hj hji)) (by omega)
  | succ f ih =>
    intro done a inv hfree hr hy H
    have hun := (mem_ready.1 hr).1
    refine ⟨List.ne_nil_of_mem hr, fun j hj => ?_⟩
    have hjn : j < n := Nat.lt_of_not_le fun h => mid_waits hs hc hn inv _ i rfl hin hun j h hj
    refine ⟨hjn, ?_⟩
    by_cases hji : j = i
    · rw [hji]; exact hy.qOp hi H
    · obtain ⟨hjun, oj, hoj, hall⟩ := mem_ready.1 hj
      have hnot : ∀ e ∈ oj.after, Region.binds md e = true → e.on ≠ i := by
        intro e he hb heq
        have h1 := hall e he hb
        rw [heq, getD_both hun] at h1
        cases h1
      have h2 := qOp_put hoj (hfree j oj hoj hji hjun hnot) (fun cs b => hsel i oi cs b hi) (fun cs b => hsel j oj cs b hoj) hy (H.2 j (ready_mono hj hji)).2
      refine qOp_mono (fun a' h3 => ih (done.setIfInBounds j true) a' (inv.set hj hjn) ?_ (ready_mono hr (Ne.symm hji)) h3.1 (by rw [Array.setIfInBounds_comm _ _ hji]; exact h3.2)) h2
      intro k ok hk hki hun' hno
      refine hfree k ok hk hki ?_ hno
      by_cases hjk : j = k
      · rw [← hjk]; exact hjun
      · rwa [getD_set_ne true hjk] at hun'
theorem qmid_lex {n g : Nat} {Lq : Act → Prop} (hsel : Region.noSelect ops = true) (hs : Region.sinkB md ops n = true) (hc : waitsB md ops n = true) (hn : n < ops.size) (l : List Oper) :
    ∀ (k : Nat) (done : Array Bool) (a : Act), (∀ j, j < l.length → l[j]? = ops[k + j]?) → k + l.length = n → HeadInv md ops n done →
    midHead md ops g l.length k done = true → wpQuiet P ops C Lq l a →
    QHead P md ops C n (fun done' a' => (Region.ready md ops done' = [n] ∧ Region.lexFrom md ops g (n + 1) (done'.setIfInBounds n true) = true) ∧ Lq a') l.length done a := by
  induction l with
  | nil =>
    intro k done a _ hk _ hB h
    obtain rfl : k = n := by simpa using hk
    simp only [List.length_nil, midHead, Bool.and_eq_true, decide_eq_true_eq] at hB
    exact ⟨hB, h⟩
  | cons o l ih =>
    intro k done a hl hk inv hB h
    have h0 : ops[k]? = some o := by simpa using (hl 0 (by simp)).symm
    simp only [List.length_cons, midHead, Bool.and_eq_true] at hB
    obtain ⟨⟨hr, hf⟩, hB'⟩ := hB
    simp only [List.length_cons] at hk
    have hr' : k ∈ Region.ready md ops done := by simpa using hr
    have hq : qOp P ops C k (wpQuiet P ops C Lq l) a := by unfold qOp; simp only [h0]; exact h
    obtain ⟨v, hy, hK⟩ := yieldsIn_of_qOp h0 hq
    exact qmid_first h0 (Region.noSelect_spec hsel) hs hc hn (by omega) (fun done' a' hL j hj => by rw [hL.1.1] at hj; simp at hj; omega) l.length done a inv (Region.free_spec h0 hf) hr' hy
      (ih (k + 1) _ _ (fun j hj => by have := hl (j + 1) (by simp; omega); simpa [Nat.add_assoc, Nat.add_comm 1 j] using this) (by omega) (inv.set hr' (by omega)) hB' hK)
end
/-- what stands behind the loud operation -/
def MidK (P : Program) (ops : Array Oper) (Q : Exit → Act → World → Prop) (rest : List Oper) (a : Act) (w : World) : Prop :=
  wpQuiet P ops (fun x => ∃ m, x = w.drewN m) (fun a3 => ∀ m, Q .normal a3 (w.drewN m)) rest a
theorem region_mid {P : Program} {id : Nat} {Q : Exit → Act → World → Prop} {a : Act} {w : World} {l : List Oper} (n : Nat) (o : Oper) (ho : l[n]? = some o) (hm : P.follows .mixedOrders = true) (hB : midB .any l.toArray n = true)
    (h : wpQuiet P l.toArray (fun w' => ∃ n, w' = w.drewN n) (fun a' => ∀ k, if Region.wanted o (yielded l.toArray a'.tmps) = true then o.wp P a' (w.drewN k) (MidK P l.toArray Q (l.drop (n + 1))) Q else MidK P l.toArray Q (l.drop (n + 1)) (a'.put o.dst undef) (w.drewN k)) (l.take n) a) : (Code.region id l.toArray true).wp P Q a w := by
  simp only [midB, Bool.and_eq_true, decide_eq_true_eq] at hB
  obtain ⟨⟨⟨⟨hsel, hn⟩, hs⟩, hc⟩, hlex⟩ := hB
  have hn' : n < l.length := by simpa using hn
  have htl : (l.take n).length = n := by simp; omega
  have hdl : (l.drop (n + 1)).length = l.toArray.size - n - 1 := by simp; omega
  have inv0 : HeadInv .any l.toArray n (Array.replicate l.toArray.size false) :=
    ⟨by simp, fun j oj _ hl => (by rw [getD_replicate_false] at hl; cases hl), fun t _ ht => getD_in (by simpa using ht) (getD_replicate_false _ _)⟩
  have H := qmid_lex (md := .any) (g := l.toArray.size - n - 1) hsel hs hc hn (l.take n) 0 _ a (fun j hj => by
    have hj' : j < n := by rw [htl] at hj; exact hj
    simp [hj']) (by simpa using htl) inv0 (by rw [htl]; exact hlex) h
  refine wp_region_any hm ?_
  have hon : l.toArray[n]? = some o := by simpa using ho
  have := any_of_qhead (Q := Q) (g := l.toArray.size - n - 1 + 1) (fun done a w' hw' hL => by
    obtain ⟨k, rfl⟩ := hw'
    refine ⟨fun h0 => (by rw [hL.1.1] at h0; cases h0), fun i hi => ?_⟩
    rw [hL.1.1] at hi
    obtain rfl : i = n := by simpa using hi
    have hL2 := hL.2 k
    unfold wpOp
    simp only [hon]
    have tail : ∀ a'' w'', MidK P l.toArray Q (l.drop (i + 1)) a'' w'' → wpAny P .any l.toArray Q (l.toArray.size - i - 1) (done.setIfInBounds i true) a'' w'' := by
      intro a'' w'' hK
      have hq := wpAnyQ_lex (P := P) (md := .any) (C := fun x => ∃ m, x = w''.drewN m) hsel (l.drop (i + 1)) (i + 1) (done.setIfInBounds i true) a'' (fun j => by simp [List.getElem?_drop]) (by rw [hdl]; exact hL.1.2) hK
      rw [hdl] at hq
      exact wpAny_of_quiet (fun a3 w3 hw3 h3 => by obtain ⟨m, rfl⟩ := hw3; exact h3 m) _ _ _ _ ⟨0, by simp [World.drewN]⟩ hq
    split
    · rename_i hw
      rw [if_pos hw] at hL2
      exact .inl (Oper.wp_mono tail hL2)
    · rename_i hw
      rw [if_neg hw] at hL2
      exact tail _ _ hL2) _ _ _ _ ⟨1, rfl⟩ H
  rw [htl, show n + (l.toArray.size - n - 1 + 1) = l.toArray.size by omega] at this
  exact this
end Go.Proofs.YtoaajpppbjaomaaGreatDoor
/- The reference's step: the walk. -/
namespace Go.Proofs.YtoaajpppbjaomaaGreatDoor
open Go.RowKit
theorem own_far {w : World} {B : Nat} {e : TypeId} {sz : Nat} {v : Value} {n : Nat} {xs : List Value} (h : w.ownsRow B e sz v n xs) {x o n' c' : Nat} (hv : v = .slice (some ⟨x, o, none⟩) n' c') : B ≤ x := by
  rcases h.2 with ⟨rfl, _⟩ | ⟨g, cap, cur, rfl, hg, _⟩
  · cases hv
  · injection hv with h1 _ _
    injection h1 with h1
    injection h1 with h1 _ _
    omega
set_option maxRecDepth 100000 in
set_option maxHeartbeats 4000000 in
theorem step_q {W w : World} {lo F R M : Nat} {fv : Value} {base : Nat} {I : Inst} {funs : List FN} {nf K n : Nat} (hrep : RepV (RepF W nf) 6 W fv funs) (hK : K ≤ funs.length) (HI : InstQC W R M fv I funs K) (hIL : ∀ k base ins mem cnt l, (I k base ins mem cnt).1 = some l → l.length = (funs.getD k default).results.length)
    {st : St} {vv : Value} (h : FrQ W w lo F R M fv base st.mem st.cnt st.vs false vv) (name : ByteArray) (at_ : Int) (k : Nat) (names : List ByteArray) (args : List XE) (aN : Option Addr) (cN : Nat) (eo : Int) (en : ByteArray) (ev : Int) (aC : Option Addr) (lC cC : Nat) (aK : Option Addr) (lK cK : Nat) (aA : Option Addr) (cA : Nat) (aR : Option Addr) (lR cR : Nat)
    (hk : k < K) (hat : I64 at_) (hnm : RepV RStr 1 W (.slice aN names.length cN) names) (ha : RepV (RepX W n) 5 W (.slice aA args.length cA) args) (hvn : st.vs.length + names.length ≤ 1048576) :
    Calls Tryz.prog 68 #[.pointer (some ⟨F, 0, none⟩), .agg (stA 3 name at_ k aN names.length cN eo en ev aC lC cC aK lK cK aA args.length cA aR lR cR)] w
      (StQ W lo F R M fv base (doStep I funs base at_ (k : Int) names args st) w) := by
  have hkf : k < funs.length := by omega
  generalize hf : funs.getD k default = f
  have hal := ha.1
  have hnl := hnm.1
  have HA := Lib.hid ha
  have HNM := Lib.hid hnm
  have HI' := Lib.hid HI
  have hIL' : ∀ {k base ins mem cnt out mem' cnt'}, I k base ins mem cnt = (some out, mem', cnt') → out.length = (funs.getD k default).results.length := fun {k base ins mem cnt out mem' cnt'} h => hIL k base ins mem cnt out (by rw [h])
  have HAT := Lib.hid hat
  have HF := Lib.hid hf
  have HREP := Lib.hid hrep
  have hFw0 := lt_of_block h.hF
  have hlo : lo ≤ w.heap.size := by have := h.geF; omega
  generalize hds : doStep I funs base at_ (k : Int) names args st = ds
  have HDS := Lib.hid hds
  clear ha hnm HI hIL hat hds hf
  unfold stA
  go_enter Tryz.func68, Tryz.ntmps68
  go_upto_region 1 with fail
  obtain ⟨w1, hw1⟩ : ∃ w1, w1 = w.alloc (Obj.cells #[.int .i64 3, .string name, .int .i64 at_, .int .i64 k, .slice aN names.length cN, .int .i64 eo, .string en, .int .i64 ev, .slice aC lC cC, .slice aK lK cK, .slice aA args.length cA, .slice aR lR cR] 88) := ⟨_, rfl⟩
  rw [← hw1]
  have hb1 : Below w.heap.size w w1 := by rw [hw1]; exact (Below.refl _ _).alloc (Nat.le_refl _) _
  have hN : w1.heap[w.heap.size]? = some (Obj.cells #[.int .i64 3, .string name, .int .i64 at_, .int .i64 k, .slice aN names.length cN, .int .i64 eo, .string en, .int .i64 ev, .slice aC lC cC, .slice aK lK cK, .slice aA args.length cA, .slice aR lR cR] 88 (0, 0)) := by rw [hw1]; exact heap_alloc_at _ _
  have hR1 := h.on hb1
  obtain ⟨b, o, c, Ap, cp, Ar, cr, Af, cf, Aq, cq, Ab, cb, rfl, hfl, hbW, k0, k1, k2, k3, k4, k5, r1, r2, r3, r4, r5⟩ := fn_cells hrep hR1.rm.below hkf HF.out
  have hbw : b < w1.heap.size := Nat.lt_of_lt_of_le hbW hR1.rm.below.size
  have hNw := lt_of_block hN
  clear hw1 h hrep
  have b0 : Below w1.heap.size w1 w1.drew := (Below.refl _ _).drew
  obtain ⟨W1, hW1⟩ : ∃ W1, W1 = w1.drew.alloc (Obj.cells #[.slice none 0 0, .slice none 0 0, .int .i64 0, .slice none 0 0, .slice none 0 0, .slice none 0 0] 50) := ⟨_, rfl⟩
  have b1 : Below w1.heap.size w1 W1 := by rw [hW1]; exact b0.alloc (Nat.le_refl _) _
  have hA : W1.heap[w1.heap.size]? = some (Obj.cells #[.slice none 0 0, .slice none 0 0, .int .i64 0, .slice none 0 0, .slice none 0 0, .slice none 0 0] 50 (0, 0)) := by rw [hW1]; show (w1.heap.push _)[w1.heap.size]? = _; rw [Array.getElem?_push_size]
  refine region_mk (W1 := W1) (fun l => l.take 12) 13 12 [0, 1, 2, 3, 4, 5, 6, 7, 8, 9, 10, 11] (.pointer (some ⟨w1.heap.size, 0, none⟩)) (by kernel_rfl) (by kernel_rfl) rfl rfl rfl (fun a => by rw [hW1]; simp [execOp, go_sem]) ?_
  clear hW1
  simp only [List.take_succ_cons, List.take_zero]
  have q0 : ∀ w', Below w1.heap.size w1 w' → w'.cell? ⟨F, 0, none⟩ = some (.pointer (some ⟨R, 0, none⟩)) := fun w' hw' => (hR1.on hw').c0
  have q1 : ∀ w', Below w1.heap.size w1 w' → w'.cell? ⟨R, 0, none⟩ = some (Value.slice (some ⟨b, o, none⟩) funs.length c) := fun w' hw' => (hR1.on hw').r0
  have q2 : ∀ w', Below w1.heap.size w1 w' → w'.cell? ⟨w.heap.size, 3, none⟩ = some (.int .i64 k) := fun w' hw' => (hw'.cell (p := ⟨w.heap.size, 3, none⟩) hNw).trans (cellB' hN 3 rfl)
  have qk : ∀ w' (x : Nat), Below w1.heap.size w1 w' → w'.cell? ⟨b, x, none⟩ = w1.cell? ⟨b, x, none⟩ := fun w' x hw' => hw'.cell (p := ⟨b, x, none⟩) hbw
  generalize w1.drew = W0 at b0 ⊢
  refine both_one (.pointer (some ⟨F, 0, none⟩)) (by kernel_rfl) (by simp [execOp, go_sem]) (by simp [execOp, go_sem]) ?_
  go_simp
  refine both_one (.pointer (some ⟨F, 0, none⟩)) (by kernel_rfl) (by simp [execOp, go_sem]) (by simp [execOp, go_sem]) ?_
  go_simp
  refine both_one (.pointer (some ⟨F, 0, none⟩)) (by kernel_rfl) (by simp [execOp, go_sem]) (by simp [execOp, go_sem]) ?_
  go_simp
  refine both_one (.pointer (some ⟨R, 0, none⟩)) (by kernel_rfl) (by simp [execOp, go_sem, q0 _ b0]) (by simp [execOp, go_sem, q0 _ b1]) ?_
  go_simp
  refine both_one (.pointer (some ⟨R, 0, none⟩)) (by kernel_rfl) (by simp [execOp, go_sem]) (by simp [execOp, go_sem]) ?_
  go_simp
  refine both_one (.pointer (some ⟨R, 0, none⟩)) (by kernel_rfl) (by simp [execOp, go_sem]) (by simp [execOp, go_sem]) ?_
  go_simp
  refine both_one (.pointer (some ⟨R, 0, none⟩)) (by kernel_rfl) (by simp [execOp, go_sem]) (by simp [execOp, go_sem]) ?_
  go_simp
  refine both_one (.slice (some ⟨b, o, none⟩) funs.length c) (by kernel_rfl) (by simp [execOp, go_sem, q1 _ b0]) (by simp [execOp, go_sem, q1 _ b1]) ?_
  go_simp
  refine both_one (.pointer (some ⟨w.heap.size, 3, none⟩)) (by kernel_rfl) (by simp [execOp, go_sem]) (by simp [execOp, go_sem]) ?_
  go_simp
  refine both_one (.int .i64 k) (by kernel_rfl) (by simp [execOp, go_sem, q2 _ b0]) (by simp [execOp, go_sem, q2 _ b1]) ?_
  go_simp
  refine both_one (.pointer (some ⟨b, o + k * 6, none⟩)) (by kernel_rfl) (by simp [execOp, go_sem, hkf]) (by simp [execOp, go_sem, hkf]) ?_
  go_simp
  refine both_one (.agg #[.slice Ap f.params.length cp, .slice Ar f.results.length cr, .int .i64 f.cells, .slice Af f.flags.length cf, .slice Aq f.parts.length cq, .slice Ab f.body.length cb]) (by kernel_rfl) (by simp [execOp, go_sem, qk _ _ b0, k0, k1, k2, k3, k4, k5]) (by simp [execOp, go_sem, qk _ _ b1, k0, k1, k2, k3, k4, k5]) ?_
  go_simp
  refine (?_ : wpList _ _ _ _ _ _)
  have a0 : W1.cell? ⟨w1.heap.size, 0, none⟩ = some (.slice none 0 0) := cellB' hA 0 rfl
  have g0 : W1.frozen? ⟨w1.heap.size, 0, none⟩ = false := frozB hA 0
  have a1 : W1.cell? ⟨w1.heap.size, 1, none⟩ = some (.slice none 0 0) := cellB' hA 1 rfl
  have g1 : W1.frozen? ⟨w1.heap.size, 1, none⟩ = false := frozB hA 1
  have a2 : W1.cell? ⟨w1.heap.size, 2, none⟩ = some (.int .i64 0) := cellB' hA 2 rfl
  have g2 : W1.frozen? ⟨w1.heap.size, 2, none⟩ = false := frozB hA 2
  have a3 : W1.cell? ⟨w1.heap.size, 3, none⟩ = some (.slice none 0 0) := cellB' hA 3 rfl
  have g3 : W1.frozen? ⟨w1.heap.size, 3, none⟩ = false := frozB hA 3
  have a4 : W1.cell? ⟨w1.heap.size, 4, none⟩ = some (.slice none 0 0) := cellB' hA 4 rfl
  have g4 : W1.frozen? ⟨w1.heap.size, 4, none⟩ = false := frozB hA 4
  have a5 : W1.cell? ⟨w1.heap.size, 5, none⟩ = some (.slice none 0 0) := cellB' hA 5 rfl
  have g5 : W1.frozen? ⟨w1.heap.size, 5, none⟩ = false := frozB hA 5
  go_simp
  go_step
  go_step
  have hb2 : Below w1.heap.size w1 ((((((W1.setCell ⟨w1.heap.size, 0, none⟩ (.slice Ap f.params.length cp)).setCell ⟨w1.heap.size, 1, none⟩ (.slice Ar f.results.length cr)).setCell ⟨w1.heap.size, 2, none⟩ (.int .i64 f.cells)).setCell ⟨w1.heap.size, 3, none⟩ (.slice Af f.flags.length cf)).setCell ⟨w1.heap.size, 4, none⟩ (.slice Aq f.parts.length cq)).setCell ⟨w1.heap.size, 5, none⟩ (.slice Ab f.body.length cb)) := Below.setCell (Below.setCell (Below.setCell (Below.setCell (Below.setCell (Below.setCell (b1) (p := ⟨w1.heap.size, 0, none⟩) (Nat.le_refl _) (.slice Ap f.params.length cp)) (p := ⟨w1.heap.size, 1, none⟩) (Nat.le_refl _) (.slice Ar f.results.length cr)) (p := ⟨w1.heap.size, 2, none⟩) (Nat.le_refl _) (.int .i64 f.cells)) (p := ⟨w1.heap.size, 3, none⟩) (Nat.le_refl _) (.slice Af f.flags.length cf)) (p := ⟨w1.heap.size, 4, none⟩) (Nat.le_refl _) (.slice Aq f.parts.length cq)) (p := ⟨w1.heap.size, 5, none⟩) (Nat.le_refl _) (.slice Ab f.body.length cb)
  have hA2 : ((((((W1.setCell ⟨w1.heap.size, 0, none⟩ (.slice Ap f.params.length cp)).setCell ⟨w1.heap.size, 1, none⟩ (.slice Ar f.results.length cr)).setCell ⟨w1.heap.size, 2, none⟩ (.int .i64 f.cells)).setCell ⟨w1.heap.size, 3, none⟩ (.slice Af f.flags.length cf)).setCell ⟨w1.heap.size, 4, none⟩ (.slice Aq f.parts.length cq)).setCell ⟨w1.heap.size, 5, none⟩ (.slice Ab f.body.length cb)).heap[w1.heap.size]? = some (Obj.cells #[.slice Ap f.params.length cp, .slice Ar f.results.length cr, .int .i64 f.cells, .slice Af f.flags.length cf, .slice Aq f.parts.length cq, .slice Ab f.body.length cb] 50 (0, 0)) := by
    rw [heap_setCell_eq (heap_setCell_eq (heap_setCell_eq (heap_setCell_eq (heap_setCell_eq (heap_setCell_eq hA 0 (.slice Ap f.params.length cp)) 1 (.slice Ar f.results.length cr)) 2 (.int .i64 f.cells)) 3 (.slice Af f.flags.length cf)) 4 (.slice Aq f.parts.length cq)) 5 (.slice Ab f.body.length cb)]; rfl
  generalize (((((W1.setCell ⟨w1.heap.size, 0, none⟩ (.slice Ap f.params.length cp)).setCell ⟨w1.heap.size, 1, none⟩ (.slice Ar f.results.length cr)).setCell ⟨w1.heap.size, 2, none⟩ (.int .i64 f.cells)).setCell ⟨w1.heap.size, 3, none⟩ (.slice Af f.flags.length cf)).setCell ⟨w1.heap.size, 4, none⟩ (.slice Aq f.parts.length cq)).setCell ⟨w1.heap.size, 5, none⟩ (.slice Ab f.body.length cb) = w2 at hb2 hA2 ⊢
  clear a0 a1 a2 a3 a4 a5 g0 g1 g2 g3 g4 g5 q0 q1 q2 qk b0 b1 hA k0 k1 k2 k3 k4 k5
  have hbA : Below w.heap.size w w2 := hb1.trans (hb2.mono hb1.size)
  have HR2 := Lib.hid (hR1.on hb2)
  have hN2 := (hb2.block w.heap.size hNw).trans hN
  have HN2 := Lib.hid hN2
  have HA2 := Lib.hid hA2
  have HB2 := Lib.hid hbA
  have n4 := cellB' hN2 4 rfl
  have n10 := cellB' hN2 10 rfl
  have a0 := cellB' hA2 0 rfl
  have a1 := cellB' hA2 1 rfl
  have hAl := lt_of_block hA2
  have hNl := lt_of_block hN2
  have hNA : w.heap.size < w1.heap.size := hNw
  have hFw : F < w1.heap.size := lt_of_block hR1.hF
  clear hN hN2 hA2 hb1 hb2 hbA hR1
  by_cases e1 : f.params.length = args.length
  · have d1 : ((f.params.length : Int) != (args.length : Int)) = false := by simp [e1]
    by_cases e2 : f.results.length = names.length
    · have d2 : ((f.results.length : Int) != (names.length : Int)) = false := by simp [e2]
      have E1 := Lib.hid e1
      have E2 := Lib.hid e2
      clear e1 e2
      go_wp2_with fail
      go_loopw [6, 7, 8] (fun v6 v7 i wr => ArgQ W lo F R M (.slice (some ⟨b, o, none⟩) funs.length c) base st vv args w2 v6 v7 i wr) (fun _ _ i _ => args.length - (intOf i).toNat)
      case atStart => exact ⟨0, [], true, Nat.zero_le _, rfl, rfl, rfl, fun x h => by (simp at h), fun _ => rfl, fun h => by (cases h), World.ownsRow_nil _ _ _ _, HR2.out, KeepV.refl _ _ _⟩
      case round =>
        obtain ⟨j, vals, on, hj, rfl, rfl, hvl, hvI, hok, hno, hown, hfr, hkv⟩ := hrel
        have HFR := Lib.hid hfr
        have HKV := Lib.hid hkv
        have HOWN := Lib.hid hown
        have HVI := Lib.hid hvI
        have HOK := Lib.hid hok
        have HNO := Lib.hid hno
        have HNr := Lib.hid (hkv.cells HN2.out (by simp; omega) (by decide))
        have n10' := cellB' HNr.out 10 rfl
        have hNr := lt_of_block HNr.out
        have hsr := hkv.size
        obtain ⟨A6, c6, hv6⟩ := own_sl hown
        subst hv6
        clear hfr hkv hown hvI hok hno n4 n10 a0 a1
        by_cases hlt : j < args.length
        · obtain ⟨bx, ox, cx, eo', en', ev', aC', lC', cC', aK', lK', cK', hse, hbx, x0, x1, x2, x3, x4, hX⟩ := arg_cells HA.out HFR.out.rm.below hlt
          injection hse with hs1 hs2 hs3
          subst hs1
          have hbxr : bx < wr.heap.size := by have := HFR.out.rm.below.size; omega
          have HTK := Lib.hid (take_snoc' (List.getElem?_eq_getElem hlt))
          clear hs2 hs3
          go_wp2_with fail
          refine (value_q n args[j] _ _ false hX HFR.out).mono ?_
          intro e' w3 hV
          cases hval : value st.vs st.mem base args[j] with
          | none =>
            rw [hval] at hV
            obtain ⟨rfl, hfr3, hk3⟩ := hV
            have E := Lib.hid (HDS.out.symm.trans (doStepQ_none (evalArgsQ_bad (List.getElem?_eq_getElem hlt) (fun v => by rw [hval]; simp))))
            have hfr3' : FrQ W w3 lo F R M _ base st.mem st.cnt st.vs true vv := hfr3
            have H3 := Lib.hid hfr3'
            have f3 := hfr3'.c3
            have hFl3 := lt_of_block hfr3'.hF
            have HKV3 := Lib.hid (HKV.out.trans hk3)
            clear hfr3 hfr3' hk3 hval
            simp only [Option.getD_none]
            unfold cellQ
            go_wp2_with fail
            go_ret
            rw [E.out]
            exact ⟨((KeepV.of_below HB2.out).trans (HKV3.out.mono (by simp))).trans (.of_below ((Below.refl _ _).alloc (Nat.le_refl _) _)), fun h => (by cases h), fun _ => ⟨rfl, H3.out.rm.later ((Below.refl _ _).alloc (Nat.le_refl _) _)⟩⟩
          | some ov =>
            have HXI := Lib.hid (fun x (hx : ov = some x) => value_I64 HFR.out.memI (getv_I64 HFR.out.vsI) n args[j] _ x hX (by rw [hval, hx]))
            rw [hval] at hV
            obtain ⟨rfl, hfr3, hk3⟩ := hV
            have hfr3' : FrQ W w3 lo F R M _ base st.mem st.cnt st.vs false vv := hfr3
            have H3 := Lib.hid hfr3'
            have HKV3 := Lib.hid (HKV.out.trans hk3)
            have HOWN3 := Lib.hid (own_keepV HOWN.out hk3 (fun x hx => by simp at hx; omega) (by decide))
            have HVAL := Lib.hid hval
            have hs3 := hk3.size
            clear hfr3 hfr3' hk3 hval x0 x1 x2 x3 x4 hX
            simp only [Option.getD_some]
            unfold cellQ
            go_upto_region 10 with fail
            obtain ⟨w4, hw4⟩ : ∃ w4, w4 = w3.alloc (Obj.cells #[.bool ov.isSome, .int .i64 (ov.getD 0)] 75) := ⟨_, rfl⟩
            rw [← hw4]
            have hb4 : Below w3.heap.size w3 w4 := by rw [hw4]; exact (Below.refl _ _).alloc (Nat.le_refl _) _
            have hG : w4.heap[w3.heap.size]? = some (Obj.cells #[.bool ov.isSome, .int .i64 (ov.getD 0)] 75 (0, 0)) := by rw [hw4]; exact heap_alloc_at _ _
            have H4 := Lib.hid (H3.out.on hb4)
            have HKV4 := Lib.hid (HKV3.out.trans (KeepV.of_below hb4))
            have HOWN4 := Lib.hid (own_keep HOWN3.out (Keep.of_below (S := []) hb4) (fun x hx => by cases hx))
            have g0 := cellB' hG 0 rfl
            have g1 := cellB' hG 1 rfl
            have hGl := lt_of_block hG
            have hs4 := hb4.size
            have f3 := H4.out.c3
            have hFl4 := lt_of_block H4.out.hF
            clear hw4 hb4 hG
            cases ov with
            | none =>
              simp only [Option.isSome_none, Option.getD_none] at g0 g1
              have hnw : (w4.alloc (Obj.cells #[Value.int IntKind.i64 0] 2)).cell? ((⟨w4.heap.size, 0, none⟩ : Addr).add 0) = some (Value.int IntKind.i64 0) := by
                have := cellB' (heap_alloc_at w4 (Obj.cells #[Value.int IntKind.i64 0] 2)) 0 rfl
                exact this
              cases on with
              | true =>
                go_wp2_with (at_builtin; go_loud (refine append_one rfl (.tmp 64) (.tmp 67) rfl Tryz.underlying35 (by decide) Tryz.info64 rfl w2.heap.size _ j _ rfl (HOWN4.out.alloc _) ⟨w4.heap.size, 0, none⟩ (Value.int .i64 0) rfl rfl hnw (by omega) (by simp; omega) ?_))
                intro v6' w5 hown5 hgr5 hfr5
                have H5 := Lib.hid (H4.out.grown2 (HOWN4.out.alloc _) (by decide) hgr5 (by omega))
                have HKV5 := Lib.hid (HKV4.out.grown (HOWN4.out.alloc _) hgr5 (Nat.le_refl _))
                have HOWN5 := Lib.hid hown5
                clear hgr5 hfr5 hown5 hnw
                go_wp2_with fail
                refine ⟨⟨j + 1, vals ++ [0], false, hlt, by simp, rfl, by simp [hvl], ?_, ?_, ?_, by simpa using HOWN5.out, H5.out, HKV5.out⟩, by simp [intOf]; omega⟩
                · intro x hx
                  rcases List.mem_append.1 hx with hx | hx
                  · exact HVI.out x hx
                  · simp at hx; subst hx; unfold I64; omega
                · intro h; cases h
                · intro _; exact evalArgsQ_bad (List.getElem?_eq_getElem hlt) (fun v => by rw [HVAL.out]; simp)
              | false =>
                go_wp2_with (at_builtin; go_loud (refine append_one rfl (.tmp 64) (.tmp 67) rfl Tryz.underlying35 (by decide) Tryz.info64 rfl w2.heap.size _ j _ rfl (HOWN4.out.alloc _) ⟨w4.heap.size, 0, none⟩ (Value.int .i64 0) rfl rfl hnw (by omega) (by simp; omega) ?_))
                intro v6' w5 hown5 hgr5 hfr5
                have H5 := Lib.hid (H4.out.grown2 (HOWN4.out.alloc _) (by decide) hgr5 (by omega))
                have HKV5 := Lib.hid (HKV4.out.grown (HOWN4.out.alloc _) hgr5 (Nat.le_refl _))
                have HOWN5 := Lib.hid hown5
                clear hgr5 hfr5 hown5 hnw
                go_wp2_with fail
                refine ⟨⟨j + 1, vals ++ [0], false, hlt, by simp, rfl, by simp [hvl], ?_, ?_, ?_, by simpa using HOWN5.out, H5.out, HKV5.out⟩, by simp [intOf]; omega⟩
                · intro x hx
                  rcases List.mem_append.1 hx with hx | hx
                  · exact HVI.out x hx
                  · simp at hx; subst hx; unfold I64; omega
                · intro h; cases h
                · intro _; exact HNO.out (by trivial)
            | some x =>
              simp only [Option.isSome_some, Option.getD_some] at g0 g1
              have hnw : (w4.alloc (Obj.cells #[Value.int IntKind.i64 x] 2)).cell? ((⟨w4.heap.size, 0, none⟩ : Addr).add 0) = some (Value.int IntKind.i64 x) := by
                have := cellB' (heap_alloc_at w4 (Obj.cells #[Value.int IntKind.i64 x] 2)) 0 rfl
                exact this
              cases on with
              | true =>
                go_wp2_with (at_builtin; go_loud (refine append_one rfl (.tmp 64) (.tmp 67) rfl Tryz.underlying35 (by decide) Tryz.info64 rfl w2.heap.size _ j _ rfl (HOWN4.out.alloc _) ⟨w4.heap.size, 0, none⟩ (Value.int .i64 x) rfl rfl hnw (by omega) (by simp; omega) ?_))
                intro v6' w5 hown5 hgr5 hfr5
                have H5 := Lib.hid (H4.out.grown2 (HOWN4.out.alloc _) (by decide) hgr5 (by omega))
                have HKV5 := Lib.hid (HKV4.out.grown (HOWN4.out.alloc _) hgr5 (Nat.le_refl _))
                have HOWN5 := Lib.hid hown5
                clear hgr5 hfr5 hown5 hnw
                go_wp2_with fail
                refine ⟨⟨j + 1, vals ++ [x], true, hlt, by simp, rfl, by simp [hvl], ?_, ?_, ?_, by simpa using HOWN5.out, H5.out, HKV5.out⟩, by simp [intOf]; omega⟩
                · intro x hx
                  rcases List.mem_append.1 hx with hx | hx
                  · exact HVI.out x hx
                  · simp at hx; subst hx; exact HXI.out x rfl
                · intro _; rw [HTK.out]; exact evalArgs_snoc (HOK.out (by trivial)) HVAL.out
                · intro h; cases h
              | false =>
                go_wp2_with (at_builtin; go_loud (refine append_one rfl (.tmp 64) (.tmp 67) rfl Tryz.underlying35 (by decide) Tryz.info64 rfl w2.heap.size _ j _ rfl (HOWN4.out.alloc _) ⟨w4.heap.size, 0, none⟩ (Value.int .i64 x) rfl rfl hnw (by omega) (by simp; omega) ?_))
                intro v6' w5 hown5 hgr5 hfr5
                have H5 := Lib.hid (H4.out.grown2 (HOWN4.out.alloc _) (by decide) hgr5 (by omega))
                have HKV5 := Lib.hid (HKV4.out.grown (HOWN4.out.alloc _) hgr5 (Nat.le_refl _))
                have HOWN5 := Lib.hid hown5
                clear hgr5 hfr5 hown5 hnw
                go_wp2_with fail
                refine ⟨⟨j + 1, vals ++ [x], false, hlt, by simp, rfl, by simp [hvl], ?_, ?_, ?_, by simpa using HOWN5.out, H5.out, HKV5.out⟩, by simp [intOf]; omega⟩
                · intro x hx
                  rcases List.mem_append.1 hx with hx | hx
                  · exact HVI.out x hx
                  · simp at hx; subst hx; exact HXI.out x rfl
                · intro h; cases h
                · intro _; exact HNO.out (by trivial)
        · obtain rfl : j = args.length := by omega
          rw [List.take_length] at HOK
          cases on with
          | false =>
            have E := Lib.hid (HDS.out.symm.trans (doStepQ_none (HNO.out rfl)))
            go_wp2_with fail
            go_ret
            rw [E.out]
            exact ⟨(KeepV.of_below HB2.out).trans (HKV.out.mono (by simp)), fun h => (by cases h), fun _ => ⟨rfl, HFR.out.rm⟩⟩
          | true =>
            have HEV := Lib.hid (HOK.out rfl)
            have f0 := HFR.out.c0
            have f1 := HFR.out.c1
            have hFr := lt_of_block HFR.out.hF
            have n2' := cellB' HNr.out 2 rfl
            have n3' := cellB' HNr.out 3 rfl
            have n4' := cellB' HNr.out 4 rfl
            have hml := HFR.out.rm.mlen
            have hbl := HFR.out.blen
            have hat' := HAT.out
            go_wp2_with fail
            refine region_mid 14 _ rfl (by kernel_rfl) (by kernel_rfl) ?_
            simp only [List.take_succ_cons, List.take_zero]
            repeat (go_big_quiet_step ((go_at_call 69; exact Calls.quiet_of_same (add_q _ base at_ (by omega) hat'))))
            refine wpQuiet_nil ?_
            intro kq
            have hb5 := Below.drewN' (Below.refl wr.heap.size wr) kq
            have HFR5 := Lib.hid (HFR.out.on hb5)
            have HKV5 := Lib.hid (HKV.out.trans (KeepV.of_below hb5))
            have HOWN5 := Lib.hid (own_keep HOWN.out (Keep.of_below (S := []) hb5) (fun x hx => by cases hx))
            have HN5 := Lib.hid ((hb5.block _ hNr).trans HNr.out)
            have hs5 := hb5.size
            clear hb5 f0 f1 hFr n2' n3' n4' n10' hNr
            generalize wr.drewN kq = w5 at HFR5 HKV5 HOWN5 HN5 hs5 ⊢
            go_simp
            go_at_call 30
            refine (HI'.out k w5 (addF base at_) (further st.mem.length base at_) st.mem st.cnt vals _ hk HFR5.out.rm (effB_add hbl hml) (by unfold I64 addF at *; split <;> omega) HFR5.out.memI (own_intsQ HOWN5.out hvl) HVI.out (by rw [HF.out, E1.out, hvl]) (fun x hx o' n' c' _ hv => ?hfar)).mono ?_
            case hfar =>
              have h1 := own_far HOWN5.out hv
              have := HFR5.out.ltR
              have := HFR5.out.ltM
              have := HFR5.out.geF
              simp at hx
              omega
            intro e w6 hP
            generalize hq : I k (further st.mem.length base at_) vals st.mem st.cnt = q at hP
            obtain ⟨ro, mem', cnt'⟩ := q
            cases ro with
            | none =>
              obtain ⟨rfl, hr6⟩ := hP.no rfl
              have E := Lib.hid (HDS.out.symm.trans (doStepQ_no HF.out ⟨E1.out, E2.out⟩ HEV.out hq))
              have HK6 := Lib.hid hP.keep
              clear hP hq
              unfold MidK
              dsimp only
              repeat (go_big_quiet_step (fail))
              refine wpQuiet_nil ?_
              intro m
              have hb7 := Below.drewN' (Below.refl w6.heap.size w6) m
              have H7 := Lib.hid (hr6.later hb7)
              have HK7 := Lib.hid ((((KeepV.of_below (lo := lo) (S := [R, M, F]) HB2.out).trans (HKV5.out.mono (by simp))).trans ((KeepV.of_keep HK6.out).mono (by simp))).trans (.of_below hb7))
              clear hb7 hr6 HK6
              generalize w6.drewN m = w7 at H7 HK7 ⊢
              go_wp2_with fail
              go_loopw [12] (fun i wr => i = .int .i64 0 ∧ wr = w7) (fun i _ => 0)
              case atStart => exact ⟨rfl, rfl⟩
              case round =>
                obtain ⟨rfl, rfl⟩ := hrel
                go_wp2_with fail
                go_ret
                rw [E.out]
                exact ⟨HK7.out, fun h => (by cases h), fun _ => ⟨rfl, H7.out⟩⟩
            | some out =>
              obtain ⟨⟨lv, rfl, hown6⟩, hr6, hmI6, hoI6⟩ := hP.yes out rfl
              have E := Lib.hid (HDS.out.symm.trans (doStepQ_yes HF.out ⟨E1.out, E2.out⟩ HEV.out hq))
              have hol : out.length = names.length := by rw [hIL' hq, HF.out, E2.out]
              have hml6 := hP.mlen
              have HK6 := Lib.hid hP.keep
              have H6 := Lib.hid (HFR5.out.newMem hP.keep hr6 hml6 hmI6)
              have HN6 := Lib.hid ((hP.keep.block _ (lt_of_block HN5.out) (by simp; have := HFR5.out.ltR; have := HFR5.out.ltM; omega)).trans HN5.out)
              have hs6 := hP.keep.size
              obtain ⟨A7, c7, hlv⟩ := own_sl hown6
              subst hlv
              have HOI := Lib.hid hoI6
              clear hP hq hr6 hmI6 hoI6 hml6
              unfold MidK
              dsimp only
              repeat (go_big_quiet_step (fail))
              refine wpQuiet_nil ?_
              intro m
              have hb7 := Below.drewN' (Below.refl w6.heap.size w6) m
              have H7 := Lib.hid (H6.out.on hb7)
              have HK7 := Lib.hid ((((KeepV.of_below (lo := lo) (S := [R, M, F]) HB2.out).trans (HKV5.out.mono (by simp))).trans ((KeepV.of_keep HK6.out).mono (by simp))).trans (.of_below hb7))
              have HOWN7 := Lib.hid (own_keep hown6 (Keep.of_below (S := []) hb7) (fun x hx => by cases hx))
              have HN7 := Lib.hid ((hb7.block _ (lt_of_block HN6.out)).trans HN6.out)
              have hs7 := hb7.size
              clear hb7 H6 HK6 hown6 HN6
              generalize w6.drewN m = w7 at H7 HK7 HOWN7 HN7 hs7 ⊢
              go_wp2_with fail
              go_loopw [12] (fun i wr => SetQ W lo F R M (.slice (some ⟨b, o, none⟩) funs.length c) base mem' cnt' st.vs names out w7 i wr) (fun i _ => out.length - (intOf i).toNat)
              case atStart => exact ⟨0, vv, Nat.zero_le _, rfl, H7.out, KeepV.refl _ _ _⟩
              case round =>
                obtain ⟨i, vv', hi, rfl, hfr8, hkv8⟩ := hrel
                have H8 := Lib.hid hfr8
                have HK8 := Lib.hid hkv8
                have HN8 := Lib.hid (hkv8.cells HN7.out (by simp; omega) (by decide))
                have HOWN8 := Lib.hid (own_keepV HOWN7.out hkv8 (fun x hx => by simp at hx; omega) (by decide))
                have n4' := cellB' HN8.out 4 rfl
                have hNl8 := lt_of_block HN8.out
                clear hfr8 hkv8
                by_cases hlt8 : i < out.length
                · have hil : i < names.length := by omega
                  obtain ⟨_, _, he, _, _, _, hget⟩ := HNM.out.get H8.out.rm.below
                  obtain ⟨bN, oN, cs, hAN, hbN, _, ⟨rfl, hsz⟩, hAt⟩ := hget i _ (List.getElem?_eq_getElem hil)
                  injection he with he1 he2 he3
                  subst he1
                  subst hAN
                  clear he2 he3
                  have hcn : wr.cell? ⟨bN, oN + i, none⟩ = some (.string names[i]) := by
                    have := hAt 0 _ rfl
                    simpa using this
                  have hbNl : bN < wr.heap.size := Nat.lt_of_lt_of_le hbN H8.out.rm.below.size
                  obtain ⟨bt, ot, ct', het, hbt, hct⟩ := int_cell (ints_of_own HOWN8.out) hlt8
                  injection het with e4 e5 e6
                  subst e4
                  have hoI := HOI.out out[i] (List.getElem_mem hlt8)
                  have HT1 := Lib.hid (take_snoc' (List.getElem?_eq_getElem hlt8))
                  have HT2 := Lib.hid (take_snoc' (List.getElem?_eq_getElem hil))
                  generalize out[i] = ov at hct hoI HT1
                  generalize names[i] = nv at hcn HT2
                  clear hget hAt hsz e5 e6
                  go_wp2_with fail
                  refine region_qtail 11 (by kernel_rfl) (by kernel_rfl) ?_
                  simp only [List.take_succ_cons, List.take_zero, List.drop_succ_cons, List.drop_zero]
                  repeat (go_big_quiet_step (fail))
                  refine wpQuiet_nil ?_
                  intro kq8
                  have hb9 := Below.drewN' (Below.refl wr.heap.size wr) kq8
                  have H9 := Lib.hid (H8.out.on hb9)
                  have HK9 := Lib.hid (HK8.out.trans (KeepV.of_below hb9))
                  clear hb9 hcn hct n4' hNl8 hbNl hbt
                  generalize wr.drewN kq8 = w9 at H9 HK9 ⊢
                  go_wp2_with fail
                  refine (set_q H9.out nv (some ov) (fun v hv => by injection hv with hv; rw [← hv]; exact hoI) (by have := setvs_len (names.take i) (out.take i) st.vs; rw [List.length_take] at this; omega)).mono ?_
                  rintro e w10 ⟨rfl, ⟨vv2, hf10⟩, hk10⟩
                  have H10 := Lib.hid hf10
                  have HK10 := Lib.hid (HK9.out.trans hk10)
                  clear hf10 hk10
                  go_wp2_with fail
                  refine ⟨⟨i + 1, vv2, hlt8, by simp, ?_, HK10.out⟩, by simp [intOf]; omega⟩
                  rw [HT1.out, HT2.out, setvsQ_snoc _ _ _ _ _ (by simp; omega)]
                  exact H10.out
                · obtain rfl : i = out.length := by omega
                  go_wp2_with fail
                  go_ret
                  rw [E.out]
                  refine ⟨HK7.out.trans (HK8.out.mono (by simp)), fun _ => ⟨rfl, vv', ?_⟩, fun h => by cases h⟩
                  have h := H8.out
                  rw [List.take_length, hol, List.take_length] at h
                  exact h
    · have d2 : ((f.results.length : Int) != (names.length : Int)) = true := by simp; omega
      have E := Lib.hid (HDS.out.symm.trans (doStepQ_len HF.out (fun h => e2 h.2)))
      go_wp2_with fail
      go_ret
      rw [E.out]
      exact ⟨.of_below HB2.out, fun h => (by cases h), fun _ => ⟨rfl, HR2.out.rm⟩⟩
  · have d1 : ((f.params.length : Int) != (args.length : Int)) = true := by simp; omega
    have E := Lib.hid (HDS.out.symm.trans (doStepQ_len HF.out (fun h => e1 h.1)))
    go_wp2_with fail
    go_ret
    rw [E.out]
    exact ⟨.of_below HB2.out, fun h => (by cases h), fun _ => ⟨rfl, HR2.out.rm⟩⟩
end Go.Proofs.YtoaajpppbjaomaaGreatDoor
