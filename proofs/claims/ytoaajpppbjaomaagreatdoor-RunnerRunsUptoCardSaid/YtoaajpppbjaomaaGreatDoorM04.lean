/- Texts merged by program: parts Qf, Rl, Rm, Rq. -/
import Derived.Test.YtoaajpppbjaomaaGreatDoorM03
import Derived.Laws.AppendOwn
import Derived.OwnWalk
/- A drawn region whose last operation needs nothing and is waited for by none (a move of a constant, at the head of a loop): it may be walked first; the rest as in Qt. -/
namespace Go.Proofs.YtoaajpppbjaomaaGreatDoor
open Go
section
variable {P : Program} {md : Region.Mode} {ops : Array Oper} {C : World → Prop} {Q : Exit → Act → World → Prop}
theorem act_put_defers (a : Act) (d : Option Tmp) (v : Value) (x : Deferred) : ({ a with defers := x :: a.defers } : Act).put d v = { a.put d v with defers := x :: (a.put d v).defers } := by
  cases d <;> rfl
theorem wp_put {oi on : Oper} {a : Act} {v : Value} {w : World} {K K' : Act → World → Prop} (hQ : Deaf Q) (hap : oi.apart ops on = true) (hs : ∀ cs b, on.op ≠ .select cs b)
    (hK : ∀ a' w', K (a'.put oi.dst v) w' → K' a' w') (h : on.wp P (a.put oi.dst v) w K Q) : on.wp P a w K' Q := by
  obtain ⟨h1, h2, _⟩ := Oper.apart_spec hap
  have hc : ∀ (a : Act) u, (a.put oi.dst v).put on.dst u = (a.put on.dst u).put oi.dst v := fun a u => (Act.put_comm a v u (fun d hd he => h2 d hd he))
  unfold Oper.wp at h ⊢
  rw [execOp_put on hs a oi.dst v h1] at h
  generalize (execOp a.eval on).run P w = r at h ⊢
  cases r with
  | ok x w' =>
    cases x <;> simp only [Oper.upon] at h ⊢
    case value u => rw [hc] at h; exact hK _ _ h
    case skip => rw [hc] at h; exact hK _ _ h
    case defer d =>
      rw [← act_put_defers, hc] at h
      exact hK _ _ h
    case enter f args =>
      refine h.mono fun e w'' he => ?_
      cases e with
      | returned u =>
        have he' : K ((a.put oi.dst v).put on.dst u) w'' := he
        rw [hc] at he'
        exact hK _ _ he'
      | panicked chain => exact hQ _ _ _ _ _ he
      | outgrown => exact he
    case row row args =>
      refine h.mono fun u w'' he => ?_
      have he' : K ((a.put oi.dst v).put on.dst u) w'' := he
      rw [hc] at he'
      exact hK _ _ he'
  | halt x w' =>
    cases x <;> simp only [Oper.upon] at h ⊢
    exact hQ _ _ _ _ _ h
theorem wpOp_put {oi : Oper} {j : Nat} {oj : Oper} (hj : ops[j]? = some oj) {a : Act} {v : Value} {w : World} {K K' : Act → World → Prop} (hQ : Deaf Q) (hap : oi.apart ops oj = true) (hap' : oj.apart ops oi = true) (hs : ∀ cs b, oj.op ≠ .select cs b)
    (hK : ∀ a' w', K (a'.put oi.dst v) w' → K' a' w') (h : wpOp P ops Q j K (a.put oi.dst v) w) : wpOp P ops Q j K' a w := by
  obtain ⟨h1, h2, _⟩ := Oper.apart_spec hap
  obtain ⟨_, _, h3⟩ := Oper.apart_spec hap'
  unfold wpOp at h ⊢
  simp only [hj] at h ⊢
  rw [wanted_put oj a oi.dst v h3] at h
  split at h
  · rename_i hw
    rw [if_pos hw]
    rcases h with h | ⟨h, hl⟩
    · exact .inl (wp_put hQ hap hs hK h)
    · right
      refine ⟨?_, hl⟩
      unfold Oper.asks at h ⊢
      rwa [execOp_put oj hs a oi.dst v h1] at h
  · rename_i hw
    rw [if_neg hw]
    apply hK
    rwa [← Act.put_comm a v undef (fun d hd he => h2 d hd he)]
theorem float_first {c : Nat} {oc : Oper} {v : Value} (hc : ops[c]? = some oc) (hg : oc.guard = none) (hrun : ∀ (a : Act) w, (execOp a.eval oc).run P w = .ok (.value v) w) (hQ : Deaf Q) (hsel : ∀ (j : Nat) (o : Oper) cs b, ops[j]? = some o → o.op ≠ .select cs b)
    (haf : oc.after = #[]) (hap : ∀ j oj, ops[j]? = some oj → j ≠ c → oc.apart ops oj = true ∧ oj.apart ops oc = true) (f : Nat) :
    ∀ (done : Array Bool) (a : Act) (w : World), done.getD c true = false → wpAny P md ops Q f (done.setIfInBounds c true) (a.put oc.dst v) w → wpAny P md ops Q (f + 1) done a w := by
  have hready : ∀ (done : Array Bool), done.getD c true = false → c ∈ Region.ready md ops done := fun done h => mem_ready.2 ⟨h, oc, hc, by simp [haf]⟩
  have hexec : ∀ (a : Act) (w : World) (K : Act → World → Prop), K (a.put oc.dst v) w → wpOp P ops Q c K a w := by
    intro a w K h
    unfold wpOp
    simp only [hc]
    rw [if_pos (by simp [Region.wanted, hg])]
    left
    unfold Oper.wp
    rw [hrun, Oper.upon_value]
    exact h
  induction f with
  | zero =>
    intro done a w hun h
    refine ⟨fun h0 => absurd h0 (List.ne_nil_of_mem (hready done hun)), fun i hi => ?_⟩
    by_cases hic : i = c
    · subst hic; exact hexec a w _ h
    · have := ready_mono hi hic
      rw [h.1] at this
      cases this
  | succ f ih =>
    intro done a w hun h
    refine ⟨fun h0 => absurd h0 (List.ne_nil_of_mem (hready done hun)), fun i hi => ?_⟩
    by_cases hic : i = c
    · subst hic; exact hexec a w _ h
    · obtain ⟨_, oi, hoi, _⟩ := mem_ready.1 hi
      have h1 := h.2 i (ready_mono hi hic)
      obtain ⟨q1, q2⟩ := hap i oi hoi hic
      refine wpOp_put hoi hQ q1 q2 (fun cs b => hsel i oi cs b hoi) (fun a' w' h2 => ?_) h1
      refine ih _ a' w' (by rw [getD_set_ne true hic]; exact hun) ?_
      rw [Array.setIfInBounds_comm _ _ hic]
      exact h2
/-- the tail is n .. m-1; from m on all is done -/
structure HeadInvM (md : Region.Mode) (ops : Array Oper) (n m : Nat) (listed : Array Bool) : Prop where
  size : listed.size = ops.size
  closed : ∀ j oj, ops[j]? = some oj → listed.getD j false = true → ∀ e ∈ oj.after, Region.binds md e = true → listed.getD e.on false = true
  tail : ∀ t, n ≤ t → t < m → listed.getD t true = false
  over : ∀ t, m ≤ t → listed.getD t true = true
theorem HeadInvM.set {n m i : Nat} {listed : Array Bool} (inv : HeadInvM md ops n m listed) (hi : i ∈ Region.ready md ops listed) (hin : i < n) (hnm : n ≤ m) : HeadInvM md ops n m (listed.setIfInBounds i true) := by
  obtain ⟨_, oi, hoi, hall⟩ := mem_ready.1 hi
  refine ⟨by simp [inv.size], fun j oj hj hl e he hb => ?_, fun t ht ht' => by rw [getD_set_ne true (by omega)]; exact inv.tail t ht ht', fun t ht => by rw [getD_set_ne true (by omega)]; exact inv.over t ht⟩
  by_cases hij : i = j
  · subst hij
    have : oj = oi := Option.some.inj (hj.symm.trans hoi)
    subst this
    exact getD_set_true (hall e he hb)
  · rw [getD_set_ne false hij] at hl
    exact getD_set_true (inv.closed j oj hj hl e he hb)
def Region.chainM (md : Region.Mode) (ops : Array Oper) (n m : Nat) : Bool :=
  (List.range m).all fun t => decide (t ≤ n) || Region.waitsFor md ops t (t - 1)
theorem tail_waitsM {n m : Nat} {listed : Array Bool} (hs : Region.sinkB md ops n = true) (hc : Region.chainM md ops n m = true) (hn : n < m) (hm : m ≤ ops.size) (inv : HeadInvM md ops n m listed) :
    ∀ (d i : Nat), n - i = d → i < n → listed.getD i true = false → ∀ t, n ≤ t → t ∉ Region.ready md ops listed := by
  intro d
  induction d using Nat.strongRecOn with
  | _ d ih =>
    intro i hd hi hun t ht hr
    obtain ⟨hut, ot, hot, hall⟩ := mem_ready.1 hr
    have htlt : t < m := by
      rcases Nat.lt_or_ge t m with h | h
      · exact h
      · rw [inv.over t h] at hut; cases hut
    by_cases htn : t = n
    · subst htn
      have h1 := List.all_eq_true.1 hs i (List.mem_range.2 hi)
      obtain ⟨j, hj, hj2⟩ := List.any_eq_true.1 h1
      simp only [Bool.and_eq_true, decide_eq_true_eq] at hj2
      obtain ⟨oj, hoj, e, he, hb, hon⟩ := Region.waitsFor_spec hj2.2
      have hjle : j ≤ t := by have := List.mem_range.1 hj; omega
      by_cases hjt : j = t
      · subst hjt
        have : oj = ot := Option.some.inj (hoj.symm.trans hot)
        subst this
        have h2 := hall e he hb
        rw [hon, getD_both hun] at h2
        cases h2
      · cases hl : listed.getD j false with
        | true =>
          have h2 := inv.closed j oj hoj hl e he hb
          rw [hon, getD_both hun] at h2
          cases h2
        | false =>
          have hjs : j < listed.size := by rw [inv.size]; omega
          exact ih (t - j) (by omega) j rfl (by omega) (getD_in hjs hl) t (Nat.le_refl _) hr
    · have h1 := List.all_eq_true.1 hc t (List.mem_range.2 htlt)
      simp only [Bool.or_eq_true, decide_eq_true_eq] at h1
      rcases h1 with h1 | h1
      · omega
      · obtain ⟨o', ho', e, he, hb, hon⟩ := Region.waitsFor_spec h1
        have : o' = ot := Option.some.inj (ho'.symm.trans hot)
        subst this
        have h2 := hall e he hb
        rw [hon, getD_both (inv.tail (t - 1) (by omega) (by omega))] at h2
        cases h2
theorem qhead_firstM {n m i : Nat} {oi : Oper} {v : Value} {L : Array Bool → Act → Prop} (hi : ops[i]? = some oi) (hsel : ∀ (j : Nat) (o : Oper) cs b, ops[j]? = some o → o.op ≠ .select cs b)
    (hs : Region.sinkB md ops n = true) (hc : Region.chainM md ops n m = true) (hn : n < m) (hm : m ≤ ops.size) (hin : i < n)
    (hL : ∀ done a, L done a → ∀ j ∈ Region.ready md ops done, n ≤ j) (f : Nat) :
    ∀ (done : Array Bool) (a : Act), HeadInvM md ops n m done →
      (∀ j oj, ops[j]? = some oj → j ≠ i → done.getD j true = false → (∀ e ∈ oj.after, Region.binds md e = true → e.on ≠ i) → oi.apart ops oj = true) →
      i ∈ Region.ready md ops done → YieldsIn P ops C oi v a →
      QHead P md ops C n L f (done.setIfInBounds i true) (a.put oi.dst v) → QHead P md ops C n L (f + 1) done a := by
  induction f with
  | zero =>
    intro done a inv _ hr hy H
    have hun := (mem_ready.1 hr).1
    refine ⟨List.ne_nil_of_mem hr, fun j hj => ?_⟩
    have hjn : j < n := Nat.lt_of_not_le fun h => tail_waitsM hs hc hn hm inv _ i rfl hin hun j h hj
    refine ⟨hjn, ?_⟩
    by_cases hji : j = i
    · rw [hji]; exact hy.qOp hi H
    · exact absurd (hL _ _ H j (ready_mono hj hji)) (by omega)
  | succ f ih =>
    intro done a inv hfree hr hy H
    have hun := (mem_ready.1 hr).1
    refine ⟨List.ne_nil_of_mem hr, fun j hj => ?_⟩
    have hjn : j < n := Nat.lt_of_not_le fun h => tail_waitsM hs hc hn hm inv _ i rfl hin hun j h hj
    refine ⟨hjn, ?_⟩
    by_cases hji : j = i
    · rw [hji]; exact hy.qOp hi H
    · obtain ⟨hjun, oj, hoj, hall⟩ := mem_ready.1 hj
      have hnot : ∀ e ∈ oj.after, Region.binds md e = true → e.on ≠ i := by
        intro e he hb heq
        have h1 := hall e he hb
        rw [heq, getD_both hun] at h1
        cases h1
      have h2 := qOp_put hoj (hfree j oj hoj hji hjun hnot) (fun cs b => hsel i oi cs b hi) (fun cs b => hsel j oj cs b hoj) hy (H.2 j (ready_mono hj hji)).2
      refine qOp_mono (fun a' h3 => ih (done.setIfInBounds j true) a' (inv.set hj hjn (Nat.le_of_lt hn)) ?_ (ready_mono hr (Ne.symm hji)) h3.1 (by rw [Array.setIfInBounds_comm _ _ hji]; exact h3.2)) h2
      intro k ok hk hki hun' hno
      refine hfree k ok hk hki ?_ hno
      by_cases hjk : j = k
      · rw [← hjk]; exact hjun
      · rwa [getD_set_ne true hjk] at hun'
theorem qhead_lexM {n m g : Nat} {Lq : Act → Prop} (hsel : Region.noSelect ops = true) (hs : Region.sinkB md ops n = true) (hc : Region.chainM md ops n m = true) (hn : n < m) (hm : m ≤ ops.size) (l : List Oper) :
    ∀ (k : Nat) (done : Array Bool) (a : Act), (∀ j, j < l.length → l[j]? = ops[k + j]?) → k + l.length = n → HeadInvM md ops n m done →
    Region.lexHead md ops g l.length k done = true → wpQuiet P ops C Lq l a →
    QHead P md ops C n (fun done' a' => Region.seqB md ops g n done' = true ∧ Lq a') l.length done a := by
  induction l with
  | nil =>
    intro k done a _ hk _ hB h
    obtain rfl : k = n := by simpa using hk
    exact ⟨by simpa [Region.lexHead] using hB, h⟩
  | cons o l ih =>
    intro k done a hl hk inv hB h
    have h0 : ops[k]? = some o := by simpa using (hl 0 (by simp)).symm
    simp only [List.length_cons, Region.lexHead, Bool.and_eq_true] at hB
    obtain ⟨⟨hr, hf⟩, hB'⟩ := hB
    simp only [List.length_cons] at hk
    have hr' : k ∈ Region.ready md ops done := by simpa using hr
    have hq : qOp P ops C k (wpQuiet P ops C Lq l) a := by unfold qOp; simp only [h0]; exact h
    obtain ⟨v, hy, hK⟩ := yieldsIn_of_qOp h0 hq
    exact qhead_firstM h0 (Region.noSelect_spec hsel) hs hc hn hm (by omega) (fun done' a' hL => seqB_ready hL.1) l.length done a inv (Region.free_spec h0 hf) hr' hy
      (ih (k + 1) _ _ (fun j hj => by have := hl (j + 1) (by simp; omega); simpa [Nat.add_assoc, Nat.add_comm 1 j] using this) (by omega) (inv.set hr' (by omega) (Nat.le_of_lt hn)) hB' hK)
theorem wpAny_of_seqM : ∀ (l : List Oper) (k : Nat) (listed : Array Bool) (a : Act) (w : World), (∀ j, j < l.length → l[j]? = ops[k + j]?) →
    Region.seqB md ops l.length k listed = true → wpList P ops Q l a w → wpAny P md ops Q l.length listed a w
  | [], k, listed, a, w, _, hB, h => ⟨by simpa [Region.seqB] using hB, h⟩
  | o :: l, k, listed, a, w, hl, hB, h => by
    have h0 : ops[k]? = some o := by simpa using (hl 0 (by simp)).symm
    simp only [List.length_cons, Region.seqB, Bool.and_eq_true, decide_eq_true_eq] at hB
    refine ⟨fun h1 => (by rw [hB.1] at h1; cases h1), fun i hi => ?_⟩
    rw [hB.1] at hi
    have hik : i = k := by simpa using hi
    subst hik
    have hw : wpOp P ops Q i (wpList P ops Q l) a w := by unfold wpOp; simp only [h0]; exact h
    exact wpOp_mono (fun a' w' h' => wpAny_of_seqM l (i + 1) _ a' w' (fun j hj => by have := hl (j + 1) (by simp; omega); simpa [Nat.add_assoc, Nat.add_comm 1 j] using this) hB.2 h') hw
end
/-- all that is to be checked: the last operation is apart from all, no one waits for it -/
def Region.floatB (ops : Array Oper) (n : Nat) : Bool :=
  match ops.back? with
  | none => false
  | some oc => Region.noSelect ops && decide (n < ops.size - 1) && Region.sinkB .any ops n && Region.chainM .any ops n (ops.size - 1) && oc.after.isEmpty && oc.guard.isNone &&
    ((List.range (ops.size - 1)).all fun j => match ops[j]? with | some oj => oc.apart ops oj && oj.apart ops oc | none => true) &&
    Region.lexHead .any ops (ops.size - 1 - n) n 0 ((Array.replicate ops.size false).setIfInBounds (ops.size - 1) true)
theorem region_float {P : Program} {id : Nat} {Q : Exit → Act → World → Prop} {a : Act} {w : World} {l : List Oper} (n : Nat) (oc : Oper) (d : Option Tmp) (v : Value) (hm : P.follows .mixedOrders = true) (hB : Region.floatB l.toArray n = true)
    (hoc : l.getLast? = some oc) (hd : oc.dst = d) (hrun : ∀ (a : Act) w, (execOp a.eval oc).run P w = .ok (.value v) w) (hQ : Deaf Q)
    (h : wpQuiet P l.toArray (fun w' => ∃ n, w' = w.drewN n) (fun a' => ∀ k, wpList P l.toArray Q (l.dropLast.drop n) a' (w.drewN k)) (l.take n) (a.put d v)) : (Code.region id l.toArray true).wp P Q a w := by
  subst hd
  have hback : l.toArray.back? = some oc := by simpa [List.getLast?_eq_getElem?] using hoc
  unfold Region.floatB at hB
  simp only [hback, Bool.and_eq_true, decide_eq_true_eq, List.all_eq_true, List.mem_range] at hB
  obtain ⟨⟨⟨⟨⟨⟨⟨hsel, hn⟩, hs⟩, hc⟩, haf⟩, hg⟩, hap⟩, hlex⟩ := hB
  have hsz : l.toArray.size = l.length := by simp
  have hlast : l.toArray[l.length - 1]? = some oc := by
    have := hoc
    rw [List.getLast?_eq_getElem?] at this
    simpa using this
  rw [hsz] at hn hc hap hlex
  have hg' : oc.guard = none := by simpa using hg
  have haf' : oc.after = #[] := by simpa using haf
  refine wp_region_any hm ?_
  have key : wpAny P .any l.toArray Q (l.length - 1) ((Array.replicate l.length false).setIfInBounds (l.length - 1) true) (a.put oc.dst v) w.drew := by
    have inv0 : HeadInvM .any l.toArray n (l.length - 1) ((Array.replicate l.length false).setIfInBounds (l.length - 1) true) := by
      refine ⟨by simp, fun j oj hj hl e he hb => ?_, fun t _ ht => ?_, fun t ht => ?_⟩
      · by_cases hjc : l.length - 1 = j
        · subst hjc
          obtain rfl : oj = oc := Option.some.inj (hj.symm.trans hlast)
          rw [haf'] at he
          simp at he
        · rw [getD_set_ne false hjc, getD_replicate_false] at hl
          cases hl
      · rw [getD_set_ne true (by omega)]
        exact getD_in (by simp; omega) (getD_replicate_false _ _)
      · by_cases h1 : t = l.length - 1
        · subst h1
          have : l.length - 1 < l.length := by omega
          simp [this]
        · have : ¬ t < l.length := by omega
          simp [this]
    have htl : (l.take n).length = n := by simp; omega
    have hdl : (l.dropLast.drop n).length = l.length - 1 - n := by simp
    have H := qhead_lexM (P := P) (C := fun w' => ∃ n, w' = w.drewN n) (md := .any) (g := l.length - 1 - n) (m := l.length - 1) hsel hs hc hn (by simp) (l.take n) 0 _ (a.put oc.dst v) (fun j hj => by
      have hj' : j < n := by rw [htl] at hj; exact hj
      simp [hj']) (by simpa using htl) inv0 (by rw [htl]; exact hlex) h
    have := any_of_qhead (Q := Q) (g := l.length - 1 - n) (fun done a w' hw' hL => by
      obtain ⟨k, rfl⟩ := hw'
      have h3 := wpAny_of_seqM (md := .any) (Q := Q) (l.dropLast.drop n) n done a (w.drewN k) (fun j hj => by
        rw [hdl] at hj
        simp [List.getElem?_drop, List.getElem?_dropLast]
        omega) (by rw [hdl]; exact hL.1) (hL.2 k)
      rwa [hdl] at h3) _ _ _ w.drew ⟨1, rfl⟩ H
    rwa [htl, show n + (l.length - 1 - n) = l.length - 1 by omega] at this
  have := float_first (P := P) (md := .any) hlast hg' hrun hQ (Region.noSelect_spec hsel) haf' (fun j oj hj hne => by
    have hjl : j < l.length := by have := (Array.getElem?_eq_some_iff.1 hj).1; simpa using this
    have h1 := hap j (by omega)
    simp only [hj] at h1
    simpa using h1) (l.length - 1) (Array.replicate l.length false) a w.drew (getD_in (by simp; omega) (getD_replicate_false _ _)) key
  rw [show l.length - 1 + 1 = l.length by omega] at this
  simpa using this
end Go.Proofs.YtoaajpppbjaomaaGreatDoor
/- The runner's step: what an instant must do, and the step over it. -/
namespace Go.Proofs.YtoaajpppbjaomaaGreatDoor
open Go.RowKit
/-- a slice that reads as these numbers -/
def Ints (w : World) (v : Value) (l : List Int) : Prop :=
  ∃ A c, v = .slice A l.length c ∧ ∀ j x, l[j]? = some x → ∃ b o, A = some ⟨b, o, none⟩ ∧ b < w.heap.size ∧ w.cell? ⟨b, o + j, none⟩ = some (.int .i64 x)
theorem ints_of_own {w : World} {B : Nat} {e : TypeId} {v : Value} {l : List Int} (h : w.ownsRow B e 1 v l.length (l.map (Value.int .i64))) : Ints w v l := by
  rcases h.2 with ⟨rfl, hn⟩ | ⟨g, cap, cur, rfl, hB, hg, hnc, _, hcs, htake⟩
  · have : l = [] := List.length_eq_zero_iff.1 hn
    subst this
    exact ⟨none, 0, rfl, fun j x h => by simp at h⟩
  · refine ⟨some ⟨g, 0, none⟩, cap, rfl, fun j x hj => ⟨g, 0, rfl, lt_of_block hg, ?_⟩⟩
    have hlt := (List.getElem?_eq_some_iff.1 hj).1
    have h1 : (cur.toList.take (l.length * 1))[j]? = some (.int .i64 x) := by rw [htake]; simp [hj]
    rw [List.getElem?_take] at h1
    rw [if_pos (by omega)] at h1
    rw [cellB hg]
    simpa using h1
structure InstP (W : World) (R M : Nat) (fv : Value) (base : Nat) (r : Option (List Int) × Mem × Int) (w : World) (e : Ending) (w' : World) : Prop where
  keep : Keep [R, M] w w'
  yes : ∀ l, r.1 = some l → (∃ v, e = .returned v ∧ w'.ownsRow w.heap.size 2 1 v l.length (l.map (Value.int .i64))) ∧ MemSt W w' R M fv r.2.1 false r.2.2 ∧ base ≤ r.2.1.length ∧ (∀ v, some v ∈ r.2.1 → I64 v) ∧ (∀ v, v ∈ l → I64 v)
  no : r.1 = none → e = .panicked [trapE] ∧ MemSt W w' R M fv r.2.1 false r.2.2
/-- what an instant must do -/
def InstC (W : World) (R M : Nat) (fv : Value) (I : Inst) (funs : List FN) (nf K : Nat) : Prop :=
  ∀ (k : Nat) (w : World) (base : Nat) (mem : Mem) (cnt : Int) (ins : List Int) (vi : Value) (f : FN) (Ap Ar Af Aq Ab : Option Addr) (cp cr cf cq cb : Nat),
    k < K → funs.getD k default = f → RepV RStr 1 W (.slice Ap f.params.length cp) f.params → RepV RStr 1 W (.slice Ar f.results.length cr) f.results → RepV (RepS W nf) 12 W (.slice Ab f.body.length cb) f.body →
    MemSt W w R M fv mem false cnt → base ≤ mem.length → (∀ v, some v ∈ mem → I64 v) → Ints w vi ins → (∀ v, v ∈ ins → I64 v) → ins.length = f.params.length →
    Calls Tryz.prog 29 #[.pointer (some ⟨R, 0, none⟩), .agg #[.slice Ap f.params.length cp, .slice Ar f.results.length cr, .int .i64 f.cells, .slice Af f.flags.length cf, .slice Aq f.parts.length cq, .slice Ab f.body.length cb], .int .i64 base, vi] w
      (InstP W R M fv base (I k base ins mem cnt) w)
theorem evalArgs_snoc {vs : Vars} {mem : Mem} {base : Nat} : ∀ {l : List XE} {vals : List Int} {a : XE} {v : Int}, evalArgs vs mem base l = some vals → value vs mem base a = some (some v) → evalArgs vs mem base (l ++ [a]) = some (vals ++ [v])
  | [], vals, a, v, h, hv => by simp only [evalArgs, Option.some.injEq] at h; subst h; simp [evalArgs, hv]
  | x :: r, vals, a, v, h, hv => by
    simp only [evalArgs] at h
    simp only [List.cons_append, evalArgs]
    cases hx : value vs mem base x with
    | none => rw [hx] at h; cases h
    | some o =>
      cases o with
      | none => rw [hx] at h; cases h
      | some y =>
        rw [hx] at h
        simp only [Option.map_eq_some_iff] at h
        obtain ⟨t, ht, rfl⟩ := h
        simp [evalArgs_snoc ht hv]
theorem evalArgs_bad {vs : Vars} {mem : Mem} {base : Nat} : ∀ {l : List XE} {j : Nat} {a : XE}, l[j]? = some a → (∀ v, value vs mem base a ≠ some (some v)) → evalArgs vs mem base l = none
  | [], j, a, h, _ => by simp at h
  | x :: r, 0, a, h, hv => by
    simp at h; subst h
    simp only [evalArgs]
  | x :: r, j + 1, a, h, hv => by
    simp only [evalArgs]
    rw [evalArgs_bad (l := r) (j := j) (by simpa using h) hv]
    split <;> rfl
theorem arg_cells {W w : World} {n : Nat} {v : Value} {l : List XE} (h : RepV (RepX W n) 5 W v l) (hb : Below W.heap.size W w) {j : Nat} (hj : j < l.length) :
    ∃ b o c eo en ev aC lC cC aK lK cK, v = .slice (some ⟨b, o, none⟩) l.length c ∧ b < W.heap.size ∧
      w.cell? ⟨b, o + j * 5, none⟩ = some (.int .i64 eo) ∧ w.cell? ⟨b, o + j * 5 + 1, none⟩ = some (.string en) ∧ w.cell? ⟨b, o + j * 5 + 2, none⟩ = some (.int .i64 ev) ∧
      w.cell? ⟨b, o + j * 5 + 3, none⟩ = some (.slice aC lC cC) ∧ w.cell? ⟨b, o + j * 5 + 4, none⟩ = some (.slice aK lK cK) ∧ RepX W n l[j] [.int .i64 eo, .string en, .int .i64 ev, .slice aC lC cC, .slice aK lK cK] := by
  obtain ⟨A, c, rfl, h1, h2, h3, h4⟩ := h.get hb
  obtain ⟨b, o, cs, rfl, hlt, hlen, hR, hAt⟩ := h4 j _ (List.getElem?_eq_getElem hj)
  generalize hs : l[j] = s at *
  obtain ⟨eo, en, ev, kids⟩ := s
  cases n with
  | zero => exact hR.elim
  | succ n =>
    have hR' := hR
    obtain ⟨ec, ek, rfl, hec, _, _, _, hk⟩ := hR
    obtain ⟨_, A', c', rfl, _⟩ := hk
    obtain ⟨aC, lC, cC, rfl⟩ := hec
    exact ⟨b, o, c, eo, en, ev, aC, lC, cC, _, _, _, rfl, hlt, hAt 0 _ rfl, hAt 1 _ rfl, hAt 2 _ rfl, hAt 3 _ rfl, hAt 4 _ rfl, hR'⟩
theorem Tryz.info64 : (Tryz.prog.info? 2).map (fun i => (i.zero, i.size, i.bytes)) = some (some (.int .i64 0), 1, 8) := by kernel_rfl
def ArgRel (base : Nat) (st : St) (args : List XE) (w : World) (v ok i : Value) (wr : World) : Prop :=
  ∃ (j : Nat) (b : Bool) (vals : List Int), j ≤ args.length ∧ i = .int .i64 j ∧ ok = .bool b ∧ vals.length = j ∧ wr.ownsRow w.heap.size 2 1 v j (vals.map (Value.int .i64)) ∧ Below w.heap.size w wr ∧
    (b = true → evalArgs st.vs st.mem base (args.take j) = some vals) ∧ (b = false → evalArgs st.vs st.mem base args = none) ∧ (∀ x, x ∈ vals → I64 x)
theorem one_news (w : World) (x : Int) (b : Nat) (hb : b = w.heap.size) : ∀ j u, [Value.int .i64 x][j]? = some u → ((w.alloc (Obj.cells #[Value.int IntKind.i64 x] 2)).cell? ((⟨b, 0, none⟩ : Addr).add j)) = some u := by
  subst hb
  intro j u hj
  match j, hj with
  | 0, hj => simp at hj; subst hj; simp [Addr.add]
theorem one_cell (x : Int) : ∀ u ∈ [Value.int .i64 x], u.oneCell' = true := by
  intro u hu; simp at hu; subst hu; rfl
theorem own_below {w w' : World} {B : Nat} {e : TypeId} {sz : Nat} {v : Value} {n : Nat} {xs : List Value} (h : w.ownsRow B e sz v n xs) (hb : Below w.heap.size w w') : w'.ownsRow B e sz v n xs :=
  h.kept (row := none) ⟨hb.os, hb.tape, hb.output, hb.size, fun k hk _ => hb.block k hk⟩ (by cases hv : v.ownBlock <;> simp)
theorem arg_next {vs : Vars} {mem : Mem} {base : Nat} {args : List XE} {j : Nat} (hlt : j < args.length) {o : Option Int} (hv : value vs mem base args[j] = some o) {ok : Bool} {vals : List Int} (hl : vals.length = j)
    (hok : ok = true → evalArgs vs mem base (args.take j) = some vals) (hno : ok = false → evalArgs vs mem base args = none) (hI : ∀ x, x ∈ vals → I64 x) (ho : ∀ x, o = some x → I64 x) :
    (vals ++ [o.getD 0]).length = j + 1 ∧ ((ok && o.isSome) = true → evalArgs vs mem base (args.take (j + 1)) = some (vals ++ [o.getD 0])) ∧ ((ok && o.isSome) = false → evalArgs vs mem base args = none) ∧ (∀ x, x ∈ vals ++ [o.getD 0] → I64 x) := by
  have hj := List.getElem?_eq_getElem hlt
  refine ⟨by simp [hl], fun h => ?_, fun h => ?_, fun x hx => ?_⟩
  · simp only [Bool.and_eq_true] at h
    obtain ⟨y, rfl⟩ := Option.isSome_iff_exists.1 h.2
    rw [take_snoc' hj]
    exact evalArgs_snoc (hok h.1) hv
  · cases ok with
    | false => exact hno rfl
    | true =>
      have : o = none := by cases o <;> simp_all
      subst this
      exact evalArgs_bad hj (fun v h => by rw [hv] at h; cases h)
  · rcases List.mem_append.1 hx with h | h
    · exact hI x h
    · simp at h
      subst h
      cases o with
      | none => unfold I64; simp
      | some y => exact ho y rfl
theorem grow_below {w2 wr w3 w4 : World} {o1 o2 : Obj} {e : TypeId} {sz n : Nat} {v : Value} {xs : List Value} (hb : Below w2.heap.size w2 wr) (hown : wr.ownsRow w2.heap.size e sz v n xs) (hb3 : Below wr.heap.size wr w3)
    (hg : ((w3.alloc o1).alloc o2).grownBy w4 v.ownBlock) : Below w2.heap.size w2 w4 := by
  have h1 := hb.size
  have h2 := hb3.size
  exact (((hb.trans (hb3.mono hb.size)).alloc (by omega) o1).alloc (by simp; omega) o2).grown hg (by simp; omega) (fun k hk => (hown.lt k hk).1)
theorem StP.trap {W w w2 w' : World} {F R M V : Nat} {fv : Value} {base : Nat} {st : St} {r : Bool × St} (hA : Below w.heap.size w w2) (h : RnF W w2 F R M V fv base st.mem st.cnt st.vs) (hb : Below w2.heap.size w2 w') (hr : r = (false, st)) :
    StP W F R M V fv base r w (.panicked [trapE]) w' := by
  subst hr
  exact ⟨Keep.of_below (hA.trans (hb.mono hA.size)), fun h => (by cases h), fun _ => ⟨rfl, h.memSt.later hb⟩⟩
section
variable {I : Inst} {funs : List FN} {base k : Nat} {at_ : Int} {names : List ByteArray} {args : List XE} {st : St} {f : FN}
theorem doStep_len (hf : funs.getD k default = f) (h : ¬ (f.params.length = args.length ∧ f.results.length = names.length)) : doStep I funs base at_ (k : Nat) names args st = (false, st) := by
  unfold doStep
  simp only [Int.toNat_natCast, hf]
  rw [if_neg h]
theorem doStep_bad (hf : funs.getD k default = f) (hv : evalArgs st.vs st.mem base args = none) : doStep I funs base at_ (k : Nat) names args st = (false, st) := by
  unfold doStep
  simp only [Int.toNat_natCast, hf]
  split
  · rw [hv]
  · rfl
theorem doStep_go (hf : funs.getD k default = f) (e1 : f.params.length = args.length) (e2 : f.results.length = names.length) {l : List Int} (hv : evalArgs st.vs st.mem base args = some l) : doStep I funs base at_ (k : Nat) names args st =
    match I k (further st.mem.length base at_) l st.mem st.cnt with
      | (none, mem, cnt) => (false, { st with mem := mem, cnt := cnt })
      | (some out, mem, cnt) => (true, { mem := mem, cnt := cnt, vs := setvs st.vs names out }) := by
  unfold doStep
  simp only [Int.toNat_natCast, hf]
  rw [if_pos ⟨e1, e2⟩, hv]
  rfl
end
theorem further_ge {len base : Nat} (n : Int) (h : base ≤ len) : base ≤ further len base n := by unfold further; split <;> omega
theorem RnF.newSt {W w w' : World} {F R M V : Nat} {fv : Value} {base : Nat} {mem mem' : Mem} {cnt cnt' : Int} {vs : Vars} (h : RnF W w F R M V fv base mem cnt vs) (hk : Keep [R, M] w w')
    (hm : MemSt W w' R M fv mem' false cnt') (hl : base ≤ mem'.length) (hi : ∀ v, some v ∈ mem' → I64 v) : RnF W w' F R M V fv base mem' cnt' vs :=
  { h with
    below := hm.below
    hF := (hk.block F (lt_of_block h.hF) (by simp [h.FM, h.FR])).trans h.hF
    hR := hm.hR
    hM := hm.hM
    hV := h.hV.of_block (hk.block V h.hV.lt (by
      obtain ⟨es, clk, h1, _⟩ := h.hV
      have h2 := block_ne h.hM h1
      have h3 := block_ne h.hR h1
      simp [Ne.symm h2, Ne.symm h3]))
    blen := hl
    mlen := hm.mlen
    memI := hi }
theorem setvs_snoc : ∀ {vs : Vars} {names : List ByteArray} {out : List Int} {j : Nat} {s : ByteArray} {x : Int}, names[j]? = some s → out[j]? = some x →
    setvs vs (names.take (j + 1)) (out.take (j + 1)) = setv (setvs vs (names.take j) (out.take j)) s (some x)
  | vs, [], out, j, s, x, h, _ => by simp at h
  | vs, a :: r, [], j, s, x, _, h => by simp at h
  | vs, a :: r, y :: t, 0, s, x, h, h' => by
    simp at h h'
    subst h; subst h'
    simp [setvs]
  | vs, a :: r, y :: t, j + 1, s, x, h, h' => by
    simp only [List.take_succ_cons, setvs]
    exact setvs_snoc (by simpa using h) (by simpa using h')
theorem str_cell {W w : World} {A : Option Addr} {c : Nat} {l : List ByteArray} (h : RepV RStr 1 W (.slice A l.length c) l) (hb : Below W.heap.size W w) {j : Nat} (hj : j < l.length) :
    ∃ b o, A = some ⟨b, o, none⟩ ∧ b < W.heap.size ∧ w.cell? ⟨b, o + j, none⟩ = some (.string l[j]) := by
  obtain ⟨A', c', he, h1, h2, h3, h4⟩ := h.get hb
  injection he with e1 e2 e3
  subst e1
  obtain ⟨b, o, cs, rfl, hlt, hlen, hR, hAt⟩ := h4 j _ (List.getElem?_eq_getElem hj)
  obtain ⟨rfl, _⟩ := hR
  exact ⟨b, o, rfl, hlt, by have := hAt 0 _ rfl; simpa using this⟩
theorem int_cell {w : World} {v : Value} {l : List Int} (h : Ints w v l) {j : Nat} (hj : j < l.length) : ∃ b o c, v = .slice (some ⟨b, o, none⟩) l.length c ∧ b < w.heap.size ∧ w.cell? ⟨b, o + j, none⟩ = some (.int .i64 l[j]) := by
  obtain ⟨A, c, rfl, h⟩ := h
  obtain ⟨b, o, rfl, h1, h2⟩ := h j _ (List.getElem?_eq_getElem hj)
  exact ⟨b, o, c, rfl, h1, h2⟩
theorem Ints.kept {w w' : World} {v : Value} {l : List Int} (h : Ints w v l) {S : List Nat} (hk : Keep S w w') (hS : ∀ x, x ∈ S → ∀ o, w.cell? ⟨x, o, none⟩ = none) : Ints w' v l := by
  obtain ⟨A, c, rfl, h⟩ := h
  refine ⟨A, c, rfl, fun j x hj => ?_⟩
  obtain ⟨b, o, rfl, h1, h2⟩ := h j x hj
  refine ⟨b, o, rfl, Nat.lt_of_lt_of_le h1 hk.size, ?_⟩
  rw [World.cell?_of_block (w := w) (w' := w') (hk.block b h1 (fun hm => by rw [hS b hm] at h2; cases h2)), h2]
theorem VarsAt.no_cell {w : World} {V : Nat} {vs : Vars} (h : VarsAt w V vs) (o : Nat) : w.cell? ⟨V, o, none⟩ = none := by
  obtain ⟨es, clk, h1, _⟩ := h
  simp [World.cell?, h1]
theorem VarsAt.no_cell' {w : World} {V x : Nat} {vs : Vars} (h : VarsAt w V vs) (hx : x ∈ [V]) (o : Nat) : w.cell? ⟨x, o, none⟩ = none := by
  obtain rfl : x = V := by simpa using hx
  exact h.no_cell o
def ResRel (W : World) (F R M V : Nat) (fv : Value) (base : Nat) (mem : Mem) (cnt : Int) (vs0 : Vars) (names : List ByteArray) (out : List Int) (w4 : World) (i : Value) (wr : World) : Prop :=
  ∃ j, j ≤ out.length ∧ i = .int .i64 (j : Nat) ∧ RnF W wr F R M V fv base mem cnt (setvs vs0 (names.take j) (out.take j)) ∧ Keep [V] w4 wr
set_option maxRecDepth 100000 in
set_option maxHeartbeats 2000000 in
theorem step_any {W : World} {F R M V : Nat} {fv : Value} {base : Nat} {I : Inst} {funs : List FN} {nf K n : Nat} (hrep : RepV (RepF W nf) 6 W fv funs) (hK : K ≤ funs.length) (HI : InstC W R M fv I funs nf K) (hIL : ∀ k base ins mem cnt l, (I k base ins mem cnt).1 = some l → l.length = (funs.getD k default).results.length) :
    StepC W F R M V fv base I funs K n := by
  intro w st name at_ fn names args aN aA aR cN cA lR cR eo ev en aC aK lC cC lK cK h hf0 hfn hat hn ha
  obtain ⟨k, rfl⟩ := Int.eq_ofNat_of_zero_le hf0
  have hk : k < funs.length := by omega
  generalize hf : funs.getD k default = f
  obtain ⟨b, o, c, Ap, cp, Ar, cr, Af, cf, Aq, cq, Ab, cb, rfl, hfl, hbW, k0, k1, k2, k3, k4, k5, r1, r2, r3, r4, r5⟩ := fn_cells hrep h.below hk hf
  have c0 := h.c0
  have r0 := h.r0
  have hFlt := lt_of_block h.hF
  have hRlt := lt_of_block h.hR
  have hMlt := lt_of_block h.hM
  have hVlt := h.hV.lt
  have hbw : b < w.heap.size := Nat.lt_of_lt_of_le hbW h.below.size
  have hla := ha.1
  have hln := hn.1
  have hlp := r1.1
  have hlr := r2.1
  obtain ⟨i0, hi, hz0, hz1, hz2⟩ := info_parts Tryz.info64
  have HH := Lib.hid h
  have HF := Lib.hid hf
  have HI' := Lib.hid HI
  clear HI h hf hf0
  go_enter Tryz.func62, Tryz.ntmps62
  go_wp2_with fail
  obtain ⟨w1, hw1⟩ : ∃ w1, w1 = w.alloc (Obj.cells #[Value.int IntKind.i64 3, Value.string name, Value.int IntKind.i64 at_, Value.int IntKind.i64 (k : Nat), Value.slice aN names.length cN, Value.int IntKind.i64 eo, Value.string en, Value.int IntKind.i64 ev, Value.slice aC lC cC, Value.slice aK lK cK, Value.slice aA args.length cA, Value.slice aR lR cR] 88) := ⟨_, rfl⟩
  rw [← hw1]
  have hb1 : Below w.heap.size w w1 := by rw [hw1]; exact (Below.refl _ _).alloc (Nat.le_refl _) _
  have hN : w1.heap[w.heap.size]? = some (.cells #[Value.int IntKind.i64 3, Value.string name, Value.int IntKind.i64 at_, Value.int IntKind.i64 (k : Nat), Value.slice aN names.length cN, Value.int IntKind.i64 eo, Value.string en, Value.int IntKind.i64 ev, Value.slice aC lC cC, Value.slice aK lK cK, Value.slice aA args.length cA, Value.slice aR lR cR] 88 (0, 0)) := by
    rw [hw1]; show (w.heap.push _)[w.heap.size]? = _; rw [Array.getElem?_push_size]
  have hNw := lt_of_block hN
  have hR1 := HH.out.on hb1
  clear hw1
  have b0 : Below w1.heap.size w1 w1.drew := (Below.refl _ _).drew
  obtain ⟨W1, hW1⟩ : ∃ W1, W1 = w1.drew.alloc (Obj.cells #[.slice none 0 0, .slice none 0 0, .int .i64 0, .slice none 0 0, .slice none 0 0, .slice none 0 0] 50) := ⟨_, rfl⟩
  have b1 : Below w1.heap.size w1 W1 := by rw [hW1]; exact b0.alloc (Nat.le_refl _) _
  have hA : W1.heap[w1.heap.size]? = some (Obj.cells #[.slice none 0 0, .slice none 0 0, .int .i64 0, .slice none 0 0, .slice none 0 0, .slice none 0 0] 50 (0, 0)) := by rw [hW1]; show (w1.heap.push _)[w1.heap.size]? = _; rw [Array.getElem?_push_size]
  refine region_mk (W1 := W1) (fun l => l.take 11) 12 11 [0, 1, 2, 3, 4, 5, 6, 7, 8, 9, 10] (.pointer (some ⟨w1.heap.size, 0, none⟩)) (by kernel_rfl) (by kernel_rfl) rfl rfl rfl (fun a => by rw [hW1]; simp [execOp, go_sem]) ?_
  clear hW1
  simp only [List.take_succ_cons, List.take_zero, List.drop_succ_cons, List.drop_zero]
  have q0 : ∀ w', Below w1.heap.size w1 w' → w'.cell? ⟨F, 0, none⟩ = some (.pointer (some ⟨R, 0, none⟩)) := fun w' hw' => (hR1.on hw').c0
  have q1 : ∀ w', Below w1.heap.size w1 w' → w'.cell? ⟨R, 0, none⟩ = some (Value.slice (some ⟨b, o, none⟩) funs.length c) := fun w' hw' => (hR1.on hw').r0
  have q2 : ∀ w', Below w1.heap.size w1 w' → w'.cell? ⟨w.heap.size, 3, none⟩ = some (.int .i64 k) := fun w' hw' => (hw'.cell (p := ⟨w.heap.size, 3, none⟩) hNw).trans (cellB' hN 3 rfl)
  have qk : ∀ w' (x : Nat), Below w1.heap.size w1 w' → w'.cell? ⟨b, x, none⟩ = w.cell? ⟨b, x, none⟩ := fun w' x hw' => (hw'.cell (p := ⟨b, x, none⟩) (Nat.lt_of_lt_of_le hbw hb1.size)).trans (hb1.cell (p := ⟨b, x, none⟩) hbw)
  generalize w1.drew = W0 at b0 ⊢
  refine both_one (.pointer (some ⟨F, 0, none⟩)) (by kernel_rfl) (by simp [execOp, go_sem]) (by simp [execOp, go_sem]) ?_
  go_simp
  refine both_one (.pointer (some ⟨F, 0, none⟩)) (by kernel_rfl) (by simp [execOp, go_sem]) (by simp [execOp, go_sem]) ?_
  go_simp
  refine both_one (.pointer (some ⟨F, 0, none⟩)) (by kernel_rfl) (by simp [execOp, go_sem]) (by simp [execOp, go_sem]) ?_
  go_simp
  refine both_one (.pointer (some ⟨R, 0, none⟩)) (by kernel_rfl) (by simp [execOp, go_sem, q0 _ b0]) (by simp [execOp, go_sem, q0 _ b1]) ?_
  go_simp
  refine both_one (.pointer (some ⟨R, 0, none⟩)) (by kernel_rfl) (by simp [execOp, go_sem]) (by simp [execOp, go_sem]) ?_
  go_simp
  refine both_one (.pointer (some ⟨R, 0, none⟩)) (by kernel_rfl) (by simp [execOp, go_sem]) (by simp [execOp, go_sem]) ?_
  go_simp
  refine both_one (.slice (some ⟨b, o, none⟩) funs.length c) (by kernel_rfl) (by simp [execOp, go_sem, q1 _ b0]) (by simp [execOp, go_sem, q1 _ b1]) ?_
  go_simp
  refine both_one (.pointer (some ⟨w.heap.size, 3, none⟩)) (by kernel_rfl) (by simp [execOp, go_sem]) (by simp [execOp, go_sem]) ?_
  go_simp
  refine both_one (.int .i64 k) (by kernel_rfl) (by simp [execOp, go_sem, q2 _ b0]) (by simp [execOp, go_sem, q2 _ b1]) ?_
  go_simp
  refine both_one (.pointer (some ⟨b, o + k * 6, none⟩)) (by kernel_rfl) (by simp [execOp, go_sem, hk]) (by simp [execOp, go_sem, hk]) ?_
  go_simp
  refine both_one (.agg #[.slice Ap f.params.length cp, .slice Ar f.results.length cr, .int .i64 f.cells, .slice Af f.flags.length cf, .slice Aq f.parts.length cq, .slice Ab f.body.length cb]) (by kernel_rfl) (by simp [execOp, go_sem, qk _ _ b0, k0, k1, k2, k3, k4, k5]) (by simp [execOp, go_sem, qk _ _ b1, k0, k1, k2, k3, k4, k5]) ?_
  go_simp
  refine (?_ : wpList _ _ _ _ _ _)
  have a0 : W1.cell? ⟨w1.heap.size, 0, none⟩ = some (.slice none 0 0) := cellB' hA 0 rfl
  have g0 : W1.frozen? ⟨w1.heap.size, 0, none⟩ = false := frozB hA 0
  have a1 : W1.cell? ⟨w1.heap.size, 1, none⟩ = some (.slice none 0 0) := cellB' hA 1 rfl
  have g1 : W1.frozen? ⟨w1.heap.size, 1, none⟩ = false := frozB hA 1
  have a2 : W1.cell? ⟨w1.heap.size, 2, none⟩ = some (.int .i64 0) := cellB' hA 2 rfl
  have g2 : W1.frozen? ⟨w1.heap.size, 2, none⟩ = false := frozB hA 2
  have a3 : W1.cell? ⟨w1.heap.size, 3, none⟩ = some (.slice none 0 0) := cellB' hA 3 rfl
  have g3 : W1.frozen? ⟨w1.heap.size, 3, none⟩ = false := frozB hA 3
  have a4 : W1.cell? ⟨w1.heap.size, 4, none⟩ = some (.slice none 0 0) := cellB' hA 4 rfl
  have g4 : W1.frozen? ⟨w1.heap.size, 4, none⟩ = false := frozB hA 4
  have a5 : W1.cell? ⟨w1.heap.size, 5, none⟩ = some (.slice none 0 0) := cellB' hA 5 rfl
  have g5 : W1.frozen? ⟨w1.heap.size, 5, none⟩ = false := frozB hA 5
  go_simp
  go_step
  go_step
  have hb2 : Below w1.heap.size w1 ((((((W1.setCell ⟨w1.heap.size, 0, none⟩ (.slice Ap f.params.length cp)).setCell ⟨w1.heap.size, 1, none⟩ (.slice Ar f.results.length cr)).setCell ⟨w1.heap.size, 2, none⟩ (.int .i64 f.cells)).setCell ⟨w1.heap.size, 3, none⟩ (.slice Af f.flags.length cf)).setCell ⟨w1.heap.size, 4, none⟩ (.slice Aq f.parts.length cq)).setCell ⟨w1.heap.size, 5, none⟩ (.slice Ab f.body.length cb)) := Below.setCell (Below.setCell (Below.setCell (Below.setCell (Below.setCell (Below.setCell (b1) (p := ⟨w1.heap.size, 0, none⟩) (Nat.le_refl _) (.slice Ap f.params.length cp)) (p := ⟨w1.heap.size, 1, none⟩) (Nat.le_refl _) (.slice Ar f.results.length cr)) (p := ⟨w1.heap.size, 2, none⟩) (Nat.le_refl _) (.int .i64 f.cells)) (p := ⟨w1.heap.size, 3, none⟩) (Nat.le_refl _) (.slice Af f.flags.length cf)) (p := ⟨w1.heap.size, 4, none⟩) (Nat.le_refl _) (.slice Aq f.parts.length cq)) (p := ⟨w1.heap.size, 5, none⟩) (Nat.le_refl _) (.slice Ab f.body.length cb)
  have hA2 : ((((((W1.setCell ⟨w1.heap.size, 0, none⟩ (.slice Ap f.params.length cp)).setCell ⟨w1.heap.size, 1, none⟩ (.slice Ar f.results.length cr)).setCell ⟨w1.heap.size, 2, none⟩ (.int .i64 f.cells)).setCell ⟨w1.heap.size, 3, none⟩ (.slice Af f.flags.length cf)).setCell ⟨w1.heap.size, 4, none⟩ (.slice Aq f.parts.length cq)).setCell ⟨w1.heap.size, 5, none⟩ (.slice Ab f.body.length cb)).heap[w1.heap.size]? = some (Obj.cells #[.slice Ap f.params.length cp, .slice Ar f.results.length cr, .int .i64 f.cells, .slice Af f.flags.length cf, .slice Aq f.parts.length cq, .slice Ab f.body.length cb] 50 (0, 0)) := by
    rw [heap_setCell_eq (heap_setCell_eq (heap_setCell_eq (heap_setCell_eq (heap_setCell_eq (heap_setCell_eq hA 0 (.slice Ap f.params.length cp)) 1 (.slice Ar f.results.length cr)) 2 (.int .i64 f.cells)) 3 (.slice Af f.flags.length cf)) 4 (.slice Aq f.parts.length cq)) 5 (.slice Ab f.body.length cb)]; rfl
  generalize (((((W1.setCell ⟨w1.heap.size, 0, none⟩ (.slice Ap f.params.length cp)).setCell ⟨w1.heap.size, 1, none⟩ (.slice Ar f.results.length cr)).setCell ⟨w1.heap.size, 2, none⟩ (.int .i64 f.cells)).setCell ⟨w1.heap.size, 3, none⟩ (.slice Af f.flags.length cf)).setCell ⟨w1.heap.size, 4, none⟩ (.slice Aq f.parts.length cq)).setCell ⟨w1.heap.size, 5, none⟩ (.slice Ab f.body.length cb) = w2 at hb2 hA2 ⊢
  clear a0 a1 a2 a3 a4 a5 g0 g1 g2 g3 g4 g5 q0 q1 q2 qk b0 b1 hA hR1 k0 k1 k2 k3 k4 k5 c0 r0
  have hbA : Below w.heap.size w w2 := hb1.trans (hb2.mono hb1.size)
  have HR2 := Lib.hid (HH.out.on hbA)
  have hN2 := (hb2.block w.heap.size hNw).trans hN
  have HN2 := Lib.hid hN2
  have HA2 := Lib.hid hA2
  have HB2 := Lib.hid hbA
  have n4 := cellB' hN2 4 rfl
  have n10 := cellB' hN2 10 rfl
  have a0 := cellB' hA2 0 rfl
  have a1 := cellB' hA2 1 rfl
  have hAl := lt_of_block hA2
  have hNl := lt_of_block hN2
  clear hN hN2 hA2 hb1 hb2 hbA HH
  by_cases e1 : f.params.length = args.length
  · have d1 : ((f.params.length : Int) == (args.length : Int)) = true := by simp [e1]
    by_cases e2 : f.results.length = names.length
    · have d2 : ((f.results.length : Int) == (names.length : Int)) = true := by simp [e2]
      have E1 := Lib.hid e1
      have E2 := Lib.hid e2
      clear e1 e2
      go_wp2_with fail
      refine (must_true _).mono ?_
      rintro e w' ⟨rfl, hw'⟩
      obtain rfl : w2 = w' := hw'.symm
      go_wp2_with fail
      go_loopw [5, 6, 43] (fun v ok i wr => ArgRel base st args w2 v ok i wr) (fun _ _ i _ => args.length - (intOf i).toNat)
      case atStart => exact ⟨0, true, [], Nat.zero_le _, rfl, rfl, rfl, World.ownsRow_nil _ _ _ _, Below.refl _ _, fun _ => rfl, fun h => by (cases h), fun x h => by (simp at h)⟩
      case round =>
        obtain ⟨j, ok, vals, hj, rfl, rfl, hvl, hown, hb, hok, hno, hvI⟩ := hrel
        by_cases hlt : j < args.length
        · obtain ⟨bx, ox, cx, eo', en', ev', aC', lC', cC', aK', lK', cK', hse, hbx, x0, x1, x2, x3, x4, hX⟩ := arg_cells ha (HR2.out.below.trans (hb.mono HR2.out.below.size)) hlt
          injection hse with hs1 hs2 hs3
          subst hs1
          have hbxr : bx < wr.heap.size := by have := HR2.out.below.size; have := hb.size; omega
          have HB := Lib.hid hb
          have HOK := Lib.hid hok
          have HNO := Lib.hid hno
          have HOWN := Lib.hid hown
          have HVI := Lib.hid hvI
          have hbs := hb.size
          clear hb hok hno hown hvI hs2 hs3
          go_wp2_with fail
          have hRr := HR2.out.on (HB.out.trans ((Below.refl _ _).alloc (by omega) (Obj.cells #[Value.int IntKind.i64 eo', Value.string en', Value.int IntKind.i64 ev', Value.slice aC' lC' cC', Value.slice aK' lK' cK'] 85)))
          refine (value_any n args[j] _ _ hX hRr).mono ?_
          intro e' w3 hv
          cases hval : value st.vs st.mem base args[j] with
          | none =>
            rw [hval] at hv
            obtain ⟨rfl, hb3⟩ := valT hv
            have hbt := (HB.out.alloc (o := Obj.cells #[Value.int IntKind.i64 eo', Value.string en', Value.int IntKind.i64 ev', Value.slice aC' lC' cC', Value.slice aK' lK' cK'] 85) hbs).trans (hb3.mono (by simp; omega))
            exact ⟨rfl, StP.trap HB2.out HR2.out hbt (doStep_bad HF.out (evalArgs_bad (List.getElem?_eq_getElem hlt) (fun v h => by rw [hval] at h; cases h)))⟩
          | some oo =>
            rw [hval] at hv
            obtain ⟨he3, hb3⟩ := hv
            obtain rfl : e' = .returned (.agg #[.int .i64 (oo.getD 0), .bool oo.isSome]) := he3
            have hnx := arg_next hlt hval hvl HOK.out HNO.out HVI.out (fun x hx => value_I64 hRr.memI hRr.vsI n _ _ x hX (by rw [hval, hx]))
            have HNX := Lib.hid hnx
            have HB3 := Lib.hid (((Below.refl wr.heap.size wr).alloc (Nat.le_refl _) (Obj.cells #[Value.int IntKind.i64 eo', Value.string en', Value.int IntKind.i64 ev', Value.slice aC' lC' cC', Value.slice aK' lK' cK'] 85)).trans (hb3.mono (by simp)))
            have hs3 := HB3.out.size
            clear hnx hb3 hval hRr
            generalize hx : oo.getD 0 = x at HNX ⊢
            generalize hd : oo.isSome = d at HNX ⊢
            clear hx hd
            have HAPP : ∀ (w' : World) (v' : Value), w'.ownsRow w2.heap.size 2 1 v' (j + 1) (vals.map (Value.int .i64) ++ [.int .i64 x]) → Below w2.heap.size w2 w' → ArgRel base st args w2 v' (.bool (ok && d)) (.int .i64 ((j : Int) + 1)) w' ∧ args.length - (intOf (.int .i64 ((j : Int) + 1))).toNat < args.length - (intOf (.int .i64 j)).toNat := fun w' v' h1 h2 => by
              have NX := HNX.out
              exact ⟨⟨j + 1, ok && d, vals ++ [x], hlt, by simp, rfl, NX.1, by simpa using h1, h2, NX.2.1, NX.2.2.1, NX.2.2.2⟩, by simp [intOf]; omega⟩
            have HA3 := Lib.hid HAPP
            clear HAPP
            cases ok
            · go_wp2_with (at_builtin; go_loud (refine wpList_append_own _ rfl (.tmp 55) (.tmp 58) 35 rfl w2.heap.size 2 i0 (.int .i64 0) 1 8 Tryz.underlying35 hi hz0 hz1 hz2 rfl (by decide) _ _ _ rfl (((own_below HOWN.out HB3.out).alloc _).alloc _) ⟨w3.heap.size + 1, 0, none⟩ 1 1 [.int .i64 x] rfl rfl (one_news _ _ _ (by simp)) (one_cell _) (by unfold maxLen; omega) (by omega) (by simp; omega) ?_))
              intro v' w4 hown' hgrow _
              go_wp2_with fail
              exact HA3.out w4 v' hown' (grow_below HB.out HOWN.out HB3.out hgrow)
            · go_wp2_with (at_builtin; go_loud (refine wpList_append_own _ rfl (.tmp 55) (.tmp 58) 35 rfl w2.heap.size 2 i0 (.int .i64 0) 1 8 Tryz.underlying35 hi hz0 hz1 hz2 rfl (by decide) _ _ _ rfl (((own_below HOWN.out HB3.out).alloc _).alloc _) ⟨w3.heap.size + 1, 0, none⟩ 1 1 [.int .i64 x] rfl rfl (one_news _ _ _ (by simp)) (one_cell _) (by unfold maxLen; omega) (by omega) (by simp; omega) ?_))
              intro v' w4 hown' hgrow _
              go_wp2_with fail
              exact HA3.out w4 v' hown' (grow_below HB.out HOWN.out HB3.out hgrow)
        · obtain rfl : j = args.length := by omega
          have HB := Lib.hid hb
          have HOK := Lib.hid hok
          have HNO := Lib.hid hno
          have HOWN := Lib.hid hown
          have HVI := Lib.hid hvI
          have hbs := hb.size
          clear hb hok hno hown hvI
          cases ok with
          | false =>
            go_wp2_with fail
            refine (must_false _).mono ?_
            rintro e3 w3 ⟨rfl, hb3⟩
            exact ⟨rfl, StP.trap HB2.out HR2.out (HB.out.trans (hb3.mono hbs)) (doStep_bad HF.out (HNO.out (by simp)))⟩
          | true =>
            go_wp2_with fail
            refine (must_true _).mono ?_
            rintro e w' ⟨rfl, hw'⟩
            obtain rfl : wr = w' := hw'.symm
            go_wp2_with fail
            have HRr := Lib.hid (HR2.out.on HB.out)
            have hkr : ∀ n, Below w2.heap.size w2 (wr.drewN n) := fun n => Below.drewN' HB.out n
            refine region_float 10 _ (some 75) (.int .i64 0) (by kernel_rfl) (by kernel_rfl) rfl rfl (fun a w => by simp [execOp, go_sem]) (fun _ _ d _ _ h => by cases d <;> exact h) ?_
            simp only [List.take_succ_cons, List.take_zero, List.dropLast_cons_cons, List.dropLast_singleton, List.drop_succ_cons, List.drop_zero]
            go_simp
            have c0 := HRr.out.c0
            have x0 := (HB.out.cell (p := ⟨w1.heap.size, 0, none⟩) hAl).trans (cellB' HA2.out 0 rfl)
            have x1 := (HB.out.cell (p := ⟨w1.heap.size, 1, none⟩) hAl).trans (cellB' HA2.out 1 rfl)
            have x2 := (HB.out.cell (p := ⟨w1.heap.size, 2, none⟩) hAl).trans (cellB' HA2.out 2 rfl)
            have x3 := (HB.out.cell (p := ⟨w1.heap.size, 3, none⟩) hAl).trans (cellB' HA2.out 3 rfl)
            have x4 := (HB.out.cell (p := ⟨w1.heap.size, 4, none⟩) hAl).trans (cellB' HA2.out 4 rfl)
            have x5 := (HB.out.cell (p := ⟨w1.heap.size, 5, none⟩) hAl).trans (cellB' HA2.out 5 rfl)
            have y2 := (HB.out.cell (p := ⟨w.heap.size, 2, none⟩) hNl).trans (cellB' HN2.out 2 rfl)
            repeat (go_big_quiet_step ((go_at_call 85; exact Calls.quiet_of (further_any (HRr.out.on (Below.drewN' (Below.refl _ _) _)) _))))
            refine wpQuiet_nil ?_
            intro kq
            clear x0 x1 x2 x3 x4 x5 y2 c0
            go_wp2_with fail
            have hds := doStep_go (I := I) (at_ := at_) (st := st) HF.out E1.out E2.out (by have := HOK.out (by simp); rwa [List.take_length] at this)
            have hRq := HRr.out.on (Below.drewN' (Below.refl _ _) kq)
            have hiv : Ints (wr.drewN kq) u5 vals := (ints_of_own (by rw [hvl]; exact HOWN.out)).kept (S := []) (Keep.of_below (Below.drewN' (Below.refl _ _) kq)) (fun x hx => by cases hx)
            refine (HI'.out k (wr.drewN kq) (further st.mem.length base at_) st.mem st.cnt vals u5 f Ap Ar Af Aq Ab cp cr cf cq cb (by omega) HF.out r1 r2 r5 hRq.memSt (further_le _ hRq.blen) hRq.memI hiv HVI.out (by rw [hvl]; exact E1.out.symm)).mono ?_
            intro e4 w4 hP
            have hkA : Keep [R, M, V] w w4 := (Keep.of_below (HB2.out.trans ((hkr kq).mono HB2.out.size))).trans (hP.keep.mono (by simp))
            have hlen := hIL k (further st.mem.length base at_) vals st.mem st.cnt
            generalize hI : I k (further st.mem.length base at_) vals st.mem st.cnt = r at hP hds hlen
            obtain ⟨ro, mem', cnt'⟩ := r
            cases ro with
            | none =>
              obtain ⟨rfl, hm⟩ := hP.no rfl
              exact ⟨rfl, ⟨hkA, (fun h => by rw [hds] at h; cases h), fun _ => ⟨rfl, by rw [hds]; exact hm⟩⟩⟩
            | some out =>
              obtain ⟨⟨v4, rfl, hown4⟩, hm4, hbl4, hmI4, hoI⟩ := hP.yes out rfl
              have hlo : out.length = f.results.length := by rw [← HF.out]; exact hlen out rfl
              have hb4 : base ≤ mem'.length := Nat.le_trans (further_ge (base := base) at_ hRq.blen) hbl4
              have hR4 := hRq.newSt hP.keep hm4 hb4 hmI4
              have HR4 := Lib.hid hR4
              have HI4 := Lib.hid (ints_of_own hown4)
              have HKA := Lib.hid hkA
              have HDS := Lib.hid hds
              have HOI := Lib.hid hoI
              have hN4 := (hP.keep.block w.heap.size (Nat.lt_of_lt_of_le hNl (hkr kq).size) (by simp; omega)).trans (((hkr kq).block w.heap.size hNl).trans HN2.out)
              have HN4 := Lib.hid hN4
              clear hP hkA hlen hI hds hm4 hR4 hown4 hoI hN4 hiv hRq
              obtain ⟨A4, c4, he4, -⟩ := HI4.out
              subst he4
              go_wp2_with fail
              go_loopw [75] (fun i wr => ResRel W F R M V (Value.slice (some ⟨b, o, none⟩) funs.length c) base mem' cnt' st.vs names out w4 i wr) (fun i _ => out.length - (intOf i).toNat)
              case atStart => exact ⟨0, Nat.zero_le _, rfl, HR4.out, Keep.refl _ _⟩
              case round =>
                obtain ⟨j, hj, rfl, hRj, hkj⟩ := hrel
                have HRJ := Lib.hid hRj
                have HKJ := Lib.hid hkj
                clear hRj hkj
                by_cases hlt : j < out.length
                · obtain ⟨bi, oi, ci, hei, hbi, hci⟩ := int_cell (HI4.out.kept HKJ.out (fun x hx => HR4.out.hV.no_cell' hx)) hlt
                  injection hei with e1 e2 e3
                  subst e1
                  obtain ⟨bn, on, hen, hbn, hcn⟩ := str_cell hn HRJ.out.below (show j < names.length by have := E2.out; omega)
                  subst hen
                  clear e2 e3
                  go_wp2_with fail
                  have hnl : j < names.length := by have := E2.out; omega
                  have c2 := HRJ.out.c2
                  have y4 := (World.cell?_of_block (w := w4) (a := ⟨w.heap.size, 4, none⟩) (HKJ.out.block w.heap.size (lt_of_block HN4.out) (by simp; omega))).trans (cellB' HN4.out 4 rfl)
                  refine region_qtail 11 (by kernel_rfl) (by kernel_rfl) ?_
                  simp only [List.take_succ_cons, List.take_zero, List.drop_succ_cons, List.drop_zero]
                  repeat (go_big_quiet_step (fail))
                  refine wpQuiet_nil ?_
                  intro kr
                  clear c2 y4
                  have hRq := HRJ.out.on (Below.drewN' (Below.refl _ _) kr)
                  have hsv := setvs_snoc (vs := st.vs) (List.getElem?_eq_getElem hnl) (List.getElem?_eq_getElem hlt)
                  refine wpList_updateR rfl _ _ _ rfl (V := V) (vs := setvs st.vs (names.take j) (out.take j)) (s := names[j]) (c := some out[j]) hRq.hV rfl rfl rfl ?_
                  intro es clk hg
                  obtain ⟨hRz, -⟩ := hRq.setVar hg (fun x hx => by cases hx; exact HOI.out _ (List.getElem_mem _))
                  have hKz : Keep [V] w4 _ := (HKJ.out.trans (Keep.of_below (Below.drewN' (Below.refl _ _) kr))).setObj (r := V) (.inl (by simp)) (Obj.map es clk)
                  have hRz' : RnF W ({ wr.drewN kr with heap := (wr.drewN kr).heap.setIfInBounds V (Obj.map es clk) } : World) F R M V (Value.slice (some ⟨b, o, none⟩) funs.length c) base mem' cnt' (setvs st.vs (names.take (j + 1)) (out.take (j + 1))) := by
                    rw [hsv]; exact hRz
                  have HRZ := Lib.hid hRz'
                  have HKZ := Lib.hid hKz
                  clear hRz hRz' hKz hRq hsv
                  generalize ({ wr.drewN kr with heap := (wr.drewN kr).heap.setIfInBounds V (Obj.map es clk) } : World) = wz at HRZ HKZ ⊢
                  go_wp2_with fail
                  exact ⟨⟨j + 1, by omega, by go_num, HRZ.out, HKZ.out⟩, by simp [intOf]; omega⟩
                · obtain rfl : j = out.length := by omega
                  go_wp2_with fail
                  go_end0
                  have hsv : setvs st.vs (names.take out.length) (out.take out.length) = setvs st.vs names out := by
                    rw [List.take_length, List.take_of_length_le (by rw [hlo, E2.out]; exact Nat.le_refl _)]
                  refine ⟨HKA.out.trans (HKJ.out.mono (by simp)), fun _ => ?_, fun h => by rw [HDS.out] at h; cases h⟩
                  rw [HDS.out]
                  have h5 := HRJ.out
                  rw [hsv] at h5
                  exact ⟨rfl, h5⟩
    · have d2 : ((f.results.length : Int) == (names.length : Int)) = false := by simpa using (by omega : ¬ (f.results.length : Int) = names.length)
      have HS := Lib.hid (doStep_len (I := I) (base := base) (at_ := at_) (names := names) (args := args) (st := st) HF.out (fun h => e2 h.2))
      clear e1 e2
      go_wp2_with fail
      refine (must_false _).mono ?_
      rintro e3 w3 ⟨rfl, hb3⟩
      exact ⟨rfl, StP.trap HB2.out HR2.out hb3 HS.out⟩
  · have d1 : ((f.params.length : Int) == (args.length : Int)) = false := by simpa using (by omega : ¬ (f.params.length : Int) = args.length)
    have HS := Lib.hid (doStep_len (I := I) (base := base) (at_ := at_) (names := names) (args := args) (st := st) HF.out (fun h => e1 h.1))
    clear e1
    go_wp2_with fail
    refine (must_false _).mono ?_
    rintro e3 w3 ⟨rfl, hb3⟩
    exact ⟨rfl, StP.trap HB2.out HR2.out hb3 HS.out⟩
end Go.Proofs.YtoaajpppbjaomaaGreatDoor
/- The runner's instant. -/
namespace Go.Proofs.YtoaajpppbjaomaaGreatDoor
open Go.RowKit
theorem varsAt_new (w : World) : VarsAt (w.alloc (.map #[] 0)) w.heap.size [] :=
  ⟨#[], 0, by show (w.heap.push _)[w.heap.size]? = _; rw [Array.getElem?_push_size], (fun x hx => by simp at hx), fun s => by simp [getv]⟩
theorem own_weaken {w : World} {B B' : Nat} {e : TypeId} {sz : Nat} {v : Value} {n : Nat} {xs : List Value} (h : w.ownsRow B e sz v n xs) (hB : B' ≤ B) : w.ownsRow B' e sz v n xs := by
  refine ⟨h.1, ?_⟩
  rcases h.2 with h2 | ⟨g, cap, cur, hv, hg, r⟩
  · exact .inl h2
  · exact .inr ⟨g, cap, cur, hv, Nat.le_trans hB hg, r⟩
theorem resultsV_snoc {vs : Vars} : ∀ {l : List ByteArray} {vals : List Int} {s : ByteArray} {v : Int}, resultsV vs l = some vals → getv vs s = some v → resultsV vs (l ++ [s]) = some (vals ++ [v])
  | [], vals, s, v, h, hv => by simp only [resultsV, Option.some.injEq] at h; subst h; simp [resultsV, hv]
  | x :: r, vals, s, v, h, hv => by
    simp only [resultsV] at h
    simp only [List.cons_append, resultsV]
    cases hx : getv vs x with
    | none => rw [hx] at h; cases h
    | some y =>
      rw [hx] at h
      simp only [Option.map_eq_some_iff] at h
      obtain ⟨t, ht, rfl⟩ := h
      simp [resultsV_snoc ht hv]
theorem resultsV_bad {vs : Vars} : ∀ {l : List ByteArray} {j : Nat} {s : ByteArray}, l[j]? = some s → getv vs s = none → resultsV vs l = none
  | [], j, s, h, _ => by simp at h
  | x :: r, 0, s, h, hv => by
    simp at h; subst h
    simp only [resultsV, hv]
  | x :: r, j + 1, s, h, hv => by
    simp only [resultsV]
    rw [resultsV_bad (l := r) (j := j) (by simpa using h) hv]
    split <;> rfl
theorem resultsV_len {vs : Vars} : ∀ {l : List ByteArray} {vals : List Int}, resultsV vs l = some vals → vals.length = l.length
  | [], vals, h => by simp only [resultsV, Option.some.injEq] at h; subst h; rfl
  | x :: r, vals, h => by
    simp only [resultsV] at h
    split at h
    · cases h
    · simp only [Option.map_eq_some_iff] at h
      obtain ⟨t, ht, rfl⟩ := h
      simp [resultsV_len ht]
theorem resultsV_I64 {vs : Vars} (hv : ∀ s v, getv vs s = some v → I64 v) : ∀ {l : List ByteArray} {vals : List Int}, resultsV vs l = some vals → ∀ v, v ∈ vals → I64 v
  | [], vals, h => by simp only [resultsV, Option.some.injEq] at h; subst h; simp
  | x :: r, vals, h => by
    simp only [resultsV] at h
    split at h
    · cases h
    · rename_i y hy
      simp only [Option.map_eq_some_iff] at h
      obtain ⟨t, ht, rfl⟩ := h
      intro v hm
      rcases List.mem_cons.1 hm with rfl | hm
      · exact hv _ _ hy
      · exact resultsV_I64 hv ht v hm
theorem instF_len (funs : List FN) : ∀ (n k base : Nat) (ins : List Int) (mem : Mem) (cnt : Int) (l : List Int), (instF funs n k base ins mem cnt).1 = some l → l.length = (funs.getD k default).results.length := by
  intro n
  cases n with
  | zero => intro k base ins mem cnt l h; simp [instF] at h
  | succ n =>
    intro k base ins mem cnt l h
    simp only [instF] at h
    split at h
    · simp at h
    · exact resultsV_len h
theorem instF_no {funs : List FN} {n k base : Nat} {ins : List Int} {mem : Mem} {cnt : Int} {f : FN} (hf : funs.getD k default = f) {st : St} (h : doL (instF funs n) funs base f.body { mem := mem, cnt := cnt, vs := setvs [] f.params ins } = (false, st)) :
    instF funs (n + 1) k base ins mem cnt = (none, st.mem, st.cnt) := by
  simp only [instF, hf, h]
theorem instF_yes {funs : List FN} {n k base : Nat} {ins : List Int} {mem : Mem} {cnt : Int} {f : FN} (hf : funs.getD k default = f) {st : St} (h : doL (instF funs n) funs base f.body { mem := mem, cnt := cnt, vs := setvs [] f.params ins } = (true, st)) :
    instF funs (n + 1) k base ins mem cnt = (resultsV st.vs f.results, st.mem, st.cnt) := by
  simp only [instF, hf, h]
theorem run_mkMap (t : TypeId) (w : World) : (Instr.makeMap t none).run Tryz.prog w = .ok (.map (some w.heap.size)) (w.alloc (.map #[] 0)) := rfl
theorem heap_alloc_lt {w : World} {o : Obj} {k : Nat} (h : k < w.heap.size) : (w.alloc o).heap[k]? = w.heap[k]? := Below.heap_alloc w o k h
theorem heap_alloc_at (w : World) (o : Obj) : (w.alloc o).heap[w.heap.size]? = some o := by show (w.heap.push _)[w.heap.size]? = _; rw [Array.getElem?_push_size]
theorem frame_new {W w : World} {R M : Nat} {fv : Value} {base : Nat} {mem : Mem} {cnt : Int} (hm : MemSt W w R M fv mem false cnt) (hb : base ≤ mem.length) (hmI : ∀ v, some v ∈ mem → I64 v) (A : Obj) (w3 : World)
    (hw : w3 = ((w.alloc A).alloc (Obj.map #[] 0)).alloc (Obj.cells #[.pointer (some ⟨R, 0, none⟩), .int .i64 base, .map (some (w.heap.size + 1))] 97)) :
    RnF W w3 (w.heap.size + 1 + 1) R M (w.heap.size + 1) fv base mem cnt [] ∧ Below w.heap.size w w3 ∧ w3.heap[w.heap.size]? = some A := by
  have s1 : (w.alloc A).heap.size = w.heap.size + 1 := by simp
  have s2 : ((w.alloc A).alloc (Obj.map #[] 0)).heap.size = w.heap.size + 1 + 1 := by simp
  have hbl : Below w.heap.size w w3 := by
    rw [hw]
    exact (((Below.refl _ _).alloc (Nat.le_refl _) _).alloc (by rw [s1]; omega) _).alloc (by rw [s2]; omega) _
  have hWs := hm.below.size
  have hR := lt_of_block hm.hR
  have hM := lt_of_block hm.hM
  have hF : w3.heap[w.heap.size + 1 + 1]? = some (Obj.cells #[.pointer (some ⟨R, 0, none⟩), .int .i64 base, .map (some (w.heap.size + 1))] 97 (0, 0)) := by
    rw [hw, ← s2]; exact heap_alloc_at _ _
  have hV : w3.heap[w.heap.size + 1]? = some (Obj.map #[] 0) := by
    rw [hw, heap_alloc_lt (by rw [s2]; omega), ← s1]; exact heap_alloc_at _ _
  have hA : w3.heap[w.heap.size]? = some A := by
    rw [hw, heap_alloc_lt (by rw [s2]; omega), heap_alloc_lt (by rw [s1]; omega)]; exact heap_alloc_at _ _
  refine ⟨⟨hm.below.trans (hbl.mono hWs), hF, (hbl.block R hR).trans hm.hR, (hbl.block M hM).trans hm.hM, ⟨#[], 0, hV, (fun x hx => by simp at hx), fun s => by simp [getv]⟩, by omega, hm.geR, hm.geM, by omega, by omega, by omega, hm.RM, hb, hm.mlen, hmI, fun s v h => by cases h⟩, hbl, hA⟩
def OutRel (vs : Vars) (names : List ByteArray) (w0 : World) (v i : Value) (wr : World) : Prop :=
  ∃ (j : Nat) (vals : List Int), j ≤ names.length ∧ i = .int .i64 j ∧ vals.length = j ∧ resultsV vs (names.take j) = some vals ∧ wr.ownsRow w0.heap.size 2 1 v j (vals.map (Value.int .i64)) ∧ Below w0.heap.size w0 wr
set_option maxRecDepth 100000 in
set_option maxHeartbeats 2000000 in
theorem instant_step {W : World} {R M : Nat} {fv : Value} {funs : List FN} {nf K n : Nat} (hrep : RepV (RepF W nf) 6 W fv funs) (hr : RightP funs) (hcal : ∀ k, k < funs.length → callsL (funs.getD k default).body k = true) (hK : K ≤ funs.length)
    (HI : ∀ k, k < K → InstC W R M fv (instF funs n) funs nf k) : InstC W R M fv (instF funs (n + 1)) funs nf K := by
  intro k w base mem cnt ins vi f Ap Ar Af Aq Ab cp cr cf cq cb hk hf r1 r2 r5 hm hbase hmI hin hinI hil
  obtain ⟨i0, hi, hz0, hz1, hz2⟩ := info_parts Tryz.info64
  have hRl := lt_of_block hm.hR
  have hMl := lt_of_block hm.hM
  have hlp := r1.1
  have hlr := r2.1
  have HM := Lib.hid hm
  have HIN := Lib.hid hin
  have HF := Lib.hid hf
  have HI' := Lib.hid HI
  obtain ⟨Ai, ci, hvi, -⟩ := hin
  subst hvi
  clear HI hm hf
  go_enter Tryz.func29, Tryz.ntmps29
  go_wp2_with fail
  rw [run_mkMap]
  go_wp2_with fail
  obtain ⟨w3, hw3⟩ : ∃ w3, w3 = (((w.alloc (Obj.cells #[Value.slice Ap f.params.length cp, Value.slice Ar f.results.length cr, Value.int IntKind.i64 f.cells, Value.slice Af f.flags.length cf, Value.slice Aq f.parts.length cq, Value.slice Ab f.body.length cb] 50)).alloc (Obj.map #[] 0)).alloc (Obj.cells #[.pointer (some ⟨R, 0, none⟩), .int .i64 base, .map (some (w.heap.size + 1))] 97)) := ⟨_, rfl⟩
  rw [← hw3]
  obtain ⟨hR3, hb3, hN3⟩ := frame_new HM.out hbase hmI _ w3 hw3
  clear hw3
  generalize hF0 : w.heap.size + 1 + 1 = F at hR3 ⊢
  generalize hV0 : w.heap.size + 1 = V at hR3 hF0 ⊢
  have HR3 := Lib.hid hR3
  have HB3 := Lib.hid hb3
  have HN3 := Lib.hid hN3
  have hNl := lt_of_block hN3
  have hs3 := hb3.size
  clear hR3 hb3 hN3
  go_loopw [23] (fun i wr => ResRel W F R M V fv base mem cnt [] f.params ins w3 i wr) (fun i _ => ins.length - (intOf i).toNat)
  case atStart => exact ⟨0, Nat.zero_le _, rfl, HR3.out, Keep.refl _ _⟩
  case round =>
    obtain ⟨j, hj, rfl, hRj, hkj⟩ := hrel
    have HRJ := Lib.hid hRj
    have HKJ := Lib.hid hkj
    clear hRj hkj
    by_cases hlt : j < ins.length
    · obtain ⟨bi, oi, ci', hei, hbi, hci⟩ := int_cell ((HIN.out.kept (S := []) (Keep.of_below HB3.out) (fun x hx => by cases hx)).kept HKJ.out (fun x hx => HR3.out.hV.no_cell' hx)) hlt
      injection hei with e1 e2 e3
      subst e1
      have hnl : j < f.params.length := by omega
      obtain ⟨bn, on, hen, hbn, hcn⟩ := str_cell r1 HRJ.out.below hnl
      subst hen
      clear e2 e3
      go_wp2_with fail
      have c2 := HRJ.out.c2
      have y0 := (World.cell?_of_block (w := w3) (a := ⟨w.heap.size, 0, none⟩) (HKJ.out.block w.heap.size hNl (by simp; omega))).trans (cellB' HN3.out 0 rfl)
      refine region_qtail 11 (by kernel_rfl) (by kernel_rfl) ?_
      simp only [List.take_succ_cons, List.take_zero, List.drop_succ_cons, List.drop_zero]
      repeat (go_big_quiet_step (fail))
      refine wpQuiet_nil ?_
      intro kr
      clear c2 y0
      have hRq := HRJ.out.on (Below.drewN' (Below.refl _ _) kr)
      have hsv := setvs_snoc (vs := []) (List.getElem?_eq_getElem hnl) (List.getElem?_eq_getElem hlt)
      refine wpList_updateR rfl _ _ _ rfl (V := V) (vs := setvs [] (f.params.take j) (ins.take j)) (s := f.params[j]) (c := some ins[j]) hRq.hV rfl rfl rfl ?_
      intro es clk hg
      obtain ⟨hRz, -⟩ := hRq.setVar hg (fun x hx => by cases hx; exact hinI _ (List.getElem_mem _))
      have hKz : Keep [V] w3 _ := (HKJ.out.trans (Keep.of_below (Below.drewN' (Below.refl _ _) kr))).setObj (r := V) (.inl (by simp)) (Obj.map es clk)
      have hRz' : RnF W ({ wr.drewN kr with heap := (wr.drewN kr).heap.setIfInBounds V (Obj.map es clk) } : World) F R M V fv base mem cnt (setvs [] (f.params.take (j + 1)) (ins.take (j + 1))) := by
        rw [hsv]; exact hRz
      have HRZ := Lib.hid hRz'
      have HKZ := Lib.hid hKz
      clear hRz hRz' hKz hRq hsv
      generalize ({ wr.drewN kr with heap := (wr.drewN kr).heap.setIfInBounds V (Obj.map es clk) } : World) = wz at HRZ HKZ ⊢
      go_wp2_with fail
      exact ⟨⟨j + 1, by omega, by go_num, HRZ.out, HKZ.out⟩, by simp [intOf]; omega⟩
    · obtain rfl : j = ins.length := by omega
      have hsv : setvs [] (f.params.take ins.length) (ins.take ins.length) = setvs [] f.params ins := by
        rw [List.take_length, List.take_of_length_le (by rw [hil]; exact Nat.le_refl _)]
      have hR4 := HRJ.out
      rw [hsv] at hR4
      have HR4 := Lib.hid hR4
      have hN4 := (HKJ.out.block w.heap.size hNl (by simp; omega)).trans HN3.out
      have HN4 := Lib.hid hN4
      have y5 := cellB' hN4 5 rfl
      have hkL : k < funs.length := by omega
      have hcb := hcal k hkL
      rw [HF.out] at hcb
      clear hsv hR4 hN4
      go_wp2_with fail
      refine (do_any hrep hr (Nat.le_of_lt hkL) (fun n' => step_any (n := n') hrep (Nat.le_of_lt hkL) (HI'.out k hk) (instF_len funs n)) nf f.body Ab cb wr ⟨mem, cnt, setvs [] f.params ins⟩ HR4.out hcb r5).mono ?_
      intro e5 w5 hP
      generalize hr5 : doL (instF funs n) funs base f.body ⟨mem, cnt, setvs [] f.params ins⟩ = r at hP
      obtain ⟨rb, st⟩ := r
      have hkA : Keep [R, M] w w5 := (Keep.of_below HB3.out).old ((HKJ.out.mono (S' := [R, M, V]) (by simp)).trans hP.keep) (fun x hx => by
        simp only [List.mem_cons, List.mem_nil_iff, or_false] at hx ⊢
        omega)
      cases rb with
      | false =>
        obtain ⟨rfl, hm5⟩ := hP.no rfl
        have hif := instF_no HF.out hr5
        refine ⟨rfl, ⟨hkA, fun l hl => ?_, fun _ => ⟨rfl, ?_⟩⟩⟩
        · rw [hif] at hl; cases hl
        · rw [hif]; exact hm5
      | true =>
        obtain ⟨rfl, hR5⟩ := hP.yes rfl
        have HIF := Lib.hid (instF_yes HF.out hr5)
        have HKA := Lib.hid hkA
        have HR5 := Lib.hid hR5
        have hN5 := (hP.keep.block w.heap.size (lt_of_block HN4.out) (by simp; omega)).trans HN4.out
        have HN5 := Lib.hid hN5
        have z1 := cellB' hN5 1 rfl
        clear hkA hP hr5 hR5 hN5
        go_wp2_with fail
        go_loopw [12, 47] (fun v i wr => OutRel st.vs f.results w5 v i wr) (fun _ i _ => f.results.length - (intOf i).toNat)
        case atStart => exact ⟨0, [], Nat.zero_le _, rfl, rfl, rfl, World.ownsRow_nil _ _ _ _, Below.refl _ _⟩
        case round =>
          obtain ⟨j, vals, hj, rfl, hvl, hres, hown, hb⟩ := hrel
          have HRJ5 := Lib.hid (HR5.out.on hb)
          have HB := Lib.hid hb
          have HRES := Lib.hid hres
          have HOWN := Lib.hid hown
          have hbs := hb.size
          clear hb hres hown
          by_cases hlt : j < f.results.length
          · obtain ⟨bn, on, hen, hbn, hcn⟩ := str_cell r2 HRJ5.out.below hlt
            subst hen
            have c2 := HRJ5.out.c2
            go_wp2_with fail
            rw [run_lookup HRJ5.out.hV f.results[j]]
            have hx : ∃ o, getv st.vs f.results[j] = o := ⟨_, rfl⟩
            obtain ⟨o, ho⟩ := hx
            rw [ho]
            have HO := Lib.hid ho
            clear ho
            cases o with
            | none =>
              unfold cellR
              simp only [Option.getD_none, Option.isSome_none]
              go_wp2_with fail
              refine (must_false _).mono ?_
              rintro e6 w6 ⟨rfl, hb6⟩
              have hbb : Below w5.heap.size w5 w6 := (HB.out.alloc hbs (Obj.cells #[Value.int IntKind.i64 0, Value.bool false] 73)).trans (hb6.mono (by simp; omega))
              have hif := HIF.out
              rw [resultsV_bad (List.getElem?_eq_getElem hlt) HO.out] at hif
              refine ⟨rfl, ⟨HKA.out.trans (Keep.of_below hbb), fun l hl => ?_, fun _ => ⟨rfl, ?_⟩⟩⟩
              · rw [hif] at hl; cases hl
              · rw [hif]; exact HR5.out.memSt.later hbb
            | some x =>
              unfold cellR
              simp only [Option.getD_some, Option.isSome_some]
              go_wp2_with fail
              refine (must_true _).mono ?_
              rintro e6 w6 ⟨rfl, rfl⟩
              go_wp2_with (at_builtin; go_loud (refine wpList_append_own _ rfl (.tmp 60) (.tmp 63) 35 rfl w5.heap.size 2 i0 (.int .i64 0) 1 8 Tryz.underlying35 hi hz0 hz1 hz2 rfl (by decide) _ _ _ rfl ((HOWN.out.alloc _).alloc _) ⟨wr.heap.size + 1, 0, none⟩ 1 1 [.int .i64 x] rfl rfl (one_news _ _ _ (by simp)) (one_cell _) (by unfold maxLen; omega) (by omega) (by simp; omega) ?_))
              intro v' w7 hown' hgrow _
              go_wp2_with fail
              have hsn := resultsV_snoc HRES.out HO.out
              rw [← take_snoc' (List.getElem?_eq_getElem hlt)] at hsn
              exact ⟨⟨j + 1, vals ++ [x], hlt, by simp, by simp [hvl], hsn, by simpa using hown', grow_below HB.out HOWN.out (Below.refl _ _) hgrow⟩, by simp [intOf]; omega⟩
          · obtain rfl : j = f.results.length := by omega
            have h1 := HRES.out
            rw [List.take_length] at h1
            have HRES' := Lib.hid h1
            clear h1
            go_wp2_with fail
            go_ret
            have hif := HIF.out
            rw [HRES'.out] at hif
            have h5s := HKA.out.size
            refine ⟨HKA.out.trans (Keep.of_below HB.out), fun l hl => ?_, fun h => by rw [hif] at h; cases h⟩
            rw [hif] at hl ⊢
            obtain rfl : vals = l := Option.some.inj hl
            refine ⟨⟨_, rfl, ?_⟩, HRJ5.out.memSt, HRJ5.out.blen, HRJ5.out.memI, resultsV_I64 HRJ5.out.vsI HRES'.out⟩
            rw [hvl]
            exact own_weaken HOWN.out h5s
theorem instant_any {W : World} {R M : Nat} {fv : Value} {funs : List FN} {nf : Nat} (hrep : RepV (RepF W nf) 6 W fv funs) (hr : RightP funs) (hcal : ∀ k, k < funs.length → callsL (funs.getD k default).body k = true) :
    ∀ n K, K ≤ n → K ≤ funs.length → InstC W R M fv (instF funs n) funs nf K := by
  intro n
  induction n with
  | zero => intro K hK _ k w base mem cnt ins vi f Ap Ar Af Aq Ab cp cr cf cq cb hk; omega
  | succ n ih => exact fun K hK hKl => instant_step hrep hr hcal hKl (fun k hk => ih k (by omega) (by omega))
end Go.Proofs.YtoaajpppbjaomaaGreatDoor
/- The runner's steps: how much statements take. -/
namespace Go.Proofs.YtoaajpppbjaomaaGreatDoor
open Go.RowKit
def Small (ws : List Int) : Prop := ∀ x, x ∈ ws → 0 ≤ x ∧ x ≤ 1001
theorem takesL_nil (c : Int) (w : List Int) (n : Int) : takesL c w [] n = n := by simp [takesL]
theorem takesL_at {c : Int} {w : List Int} {l : List FS} {j : Nat} {s : FS} (h : l[j]? = some s) (n : Int) : takesL c w (l.drop j) n = takesL c w (l.drop (j + 1)) (min (takesS c w s n) c) := by
  obtain ⟨hlt, he⟩ := List.getElem?_eq_some_iff.1 h
  rw [List.drop_eq_getElem_cons hlt, he]
  simp only [takesL]
theorem takesAs_at {c : Int} {w : List Int} {l : List FA} {j : Nat} {a : FA} (h : l[j]? = some a) (n : Int) : takesAs c w (l.drop j) n = takesAs c w (l.drop (j + 1)) (n + takesL c w a.body 0) := by
  obtain ⟨hlt, he⟩ := List.getElem?_eq_some_iff.1 h
  rw [List.drop_eq_getElem_cons hlt, he]
  cases a
  simp only [takesAs, takesA, FA.body]
mutual
theorem takesL_ge {c : Int} {w : List Int} (hc : 0 ≤ c) (hw : ∀ x, x ∈ w → 0 ≤ x) : ∀ (l : List FS) (n : Int), 0 ≤ n → 0 ≤ takesL c w l n
  | [], n, h => by simpa [takesL] using h
  | s :: r, n, h => by
    simp only [takesL]
    exact takesL_ge hc hw r _ (by have := takesS_ge hc hw s n h; omega)
theorem takesS_ge {c : Int} {w : List Int} (hc : 0 ≤ c) (hw : ∀ x, x ∈ w → 0 ≤ x) : ∀ (s : FS) (n : Int), 0 ≤ n → 0 ≤ takesS c w s n
  | .mk op _ _ fn _ _ _ arms, n, h => by
    simp only [takesS]
    refine takesAs_ge hc hw arms _ ?_
    split
    · have : 0 ≤ w.getD fn.toNat 0 := by
        rw [List.getD_eq_getElem?_getD]
        cases hx : w[fn.toNat]? with
        | none => simp
        | some x => simpa using hw x (List.mem_of_getElem? hx)
      omega
    · exact h
theorem takesAs_ge {c : Int} {w : List Int} (hc : 0 ≤ c) (hw : ∀ x, x ∈ w → 0 ≤ x) : ∀ (l : List FA) (n : Int), 0 ≤ n → 0 ≤ takesAs c w l n
  | [], n, h => by simpa [takesAs] using h
  | a :: r, n, h => by
    simp only [takesAs]
    exact takesAs_ge hc hw r _ (by have := takesA_ge hc hw a; omega)
theorem takesA_ge {c : Int} {w : List Int} (hc : 0 ≤ c) (hw : ∀ x, x ∈ w → 0 ≤ x) : ∀ (a : FA), 0 ≤ takesA c w a
  | .mk _ body => by
    simp only [takesA]
    exact takesL_ge hc hw body 0 (Int.le_refl _)
end
theorem takesL_le {c : Int} {w : List Int} : ∀ (l : List FS) (n : Int), n ≤ c → takesL c w l n ≤ c
  | [], n, h => by simpa [takesL] using h
  | s :: r, n, h => by
    simp only [takesL]
    exact takesL_le r _ (by omega)
def StepsC (W : World) (n : Nat) : Prop := ∀ (l : List FS) (A : Option Addr) (c : Nat) (k : Int) (w : World) (vt : Value) (ws : List Int), Below W.heap.size W w → RepV (RepS W n) 12 W (.slice A l.length c) l → callsL l k = true → k ≤ ws.length →
  Ints w vt ws → Small ws → ws.length ≤ 1048576 → Calls Tryz.prog 38 #[.slice A l.length c, vt] w (RetB (.int .i64 (takesL 1000 ws l 0)) w)
def TakRel (ws : List Int) (l : List FS) (w : World) (n i : Value) (wr : World) : Prop :=
  ∃ (j : Nat) (m : Int), j ≤ l.length ∧ i = .int .i64 j ∧ n = .int .i64 m ∧ 0 ≤ m ∧ m ≤ 1000 ∧ takesL 1000 ws l 0 = takesL 1000 ws (l.drop j) m ∧ Below w.heap.size w wr
def TakARel (ws : List Int) (l : List FA) (m1 : Int) (w : World) (n i : Value) (wr : World) : Prop :=
  ∃ (j : Nat) (m : Int), j ≤ l.length ∧ i = .int .i64 j ∧ n = .int .i64 m ∧ 0 ≤ m ∧ m ≤ 2001 + 1000 * (j : Int) ∧ takesAs 1000 ws l m1 = takesAs 1000 ws (l.drop j) m ∧ Below w.heap.size w wr
theorem arm_cells {W w : World} {n : Nat} {v : Value} {l : List FA} (h : RepV (RepA (RepS W n) W) 2 W v l) (hb : Below W.heap.size W w) {j : Nat} (hj : j < l.length) :
    ∃ b o c A2 c2, v = .slice (some ⟨b, o, none⟩) l.length c ∧ b < W.heap.size ∧ w.cell? ⟨b, o + j * 2, none⟩ = some (.int .i64 l[j].n) ∧ w.cell? ⟨b, o + j * 2 + 1, none⟩ = some (.slice A2 l[j].body.length c2) ∧ RepV (RepS W n) 12 W (.slice A2 l[j].body.length c2) l[j].body := by
  obtain ⟨A, c, rfl, h1, h2, h3, h4⟩ := h.get hb
  obtain ⟨b, o, cs, rfl, hlt, hlen, hR, hAt⟩ := h4 j _ (List.getElem?_eq_getElem hj)
  obtain ⟨vb, rfl, _, hvb⟩ := hR
  obtain ⟨A2, c2, rfl, _⟩ := hvb.sl
  exact ⟨b, o, c, A2, c2, rfl, hlt, hAt 0 _ rfl, hAt 1 _ rfl, hvb⟩
theorem min_if (a b : Int) : min a b = if b < a then b else a := by split <;> omega
set_option maxRecDepth 100000 in
set_option maxHeartbeats 1000000 in
theorem steps_core {W : World} {n : Nat} (l : List FS) (A : Option Addr) (c : Nat) (k : Int) (w : World) (vt : Value) (ws : List Int) (hW : Below W.heap.size W w) (hrep : RepV (RepS W (n + 1)) 12 W (.slice A l.length c) l) (hcal : callsL l k = true) (hk : k ≤ ws.length)
    (hin : Ints w vt ws) (hsm : Small ws) (hwl : ws.length ≤ 1048576) (IH : l ≠ [] → StepsC W n) :
    Calls Tryz.prog 38 #[.slice A l.length c, vt] w (RetB (.int .i64 (takesL 1000 ws l 0)) w) := by
  have hll := hrep.1
  have HREP := Lib.hid hrep
  have HIN := Lib.hid hin
  have HIH := Lib.hid IH
  have HCAL := Lib.hid hcal
  have HSM := Lib.hid hsm
  have hW0 := hW.size
  have HW := Lib.hid hW
  obtain ⟨At, ct, rfl, -⟩ := hin
  clear hrep IH hcal hsm hW
  go_enter Tryz.func38, Tryz.ntmps38
  go_wp2_with fail
  go_loopw [5, 12] (fun n i wr => TakRel ws l w n i wr) (fun _ i _ => l.length - (intOf i).toNat)
  case atStart => exact ⟨0, 0, Nat.zero_le _, rfl, rfl, by omega, by omega, rfl, Below.refl _ _⟩
  case round =>
    obtain ⟨j, m, hj, rfl, rfl, hm0, hm1, hdo, hb⟩ := hrel
    have HDO := Lib.hid hdo
    have HB := Lib.hid hb
    have hbs := hb.size
    clear hdo hb
    by_cases hlt : j < l.length
    · obtain ⟨b, o, c', op, name, at_, fn, names, e, args, arms, aN, cN, eo, en, ev, aC, lC, cC, aK, lK, cK, aA, cA, aR, cR, he, hbW, hs, q0, q1, q2, q3, q4, q5, q6, q7, q8, q9, q10, q11, i1, i2, i3, p1, p2, p3, p4⟩ := stmt_cells HREP.out (HW.out.trans (HB.out.mono hW0)) hlt
      injection he with he1 he2 he3
      subst he1
      have har := p4.1
      have HG := Lib.hid (show l[j]? = some (.mk op name at_ fn names e args arms) by rw [List.getElem?_eq_getElem hlt, hs])
      have hcs := callsL_at HCAL.out HG.out
      simp only [callsS, Bool.and_eq_true] at hcs
      have HCA := Lib.hid hcs.2
      have HAR := Lib.hid p4
      have hne : l ≠ [] := (by intro h; rw [h] at hlt; simp at hlt)
      have HIHn := Lib.hid (HIH.out hne)
      clear hne
      have hb1 : Below w.heap.size w (wr.alloc (Obj.cells #[Value.int IntKind.i64 op, Value.string name, Value.int IntKind.i64 at_, Value.int IntKind.i64 fn, Value.slice aN names.length cN, Value.int IntKind.i64 eo, Value.string en, Value.int IntKind.i64 ev, Value.slice aC lC cC, Value.slice aK lK cK, Value.slice aA args.length cA, Value.slice aR arms.length cR] 88)) := HB.out.alloc hbs _
      have HB1 := Lib.hid hb1
      have hN : (wr.alloc (Obj.cells #[Value.int IntKind.i64 op, Value.string name, Value.int IntKind.i64 at_, Value.int IntKind.i64 fn, Value.slice aN names.length cN, Value.int IntKind.i64 eo, Value.string en, Value.int IntKind.i64 ev, Value.slice aC lC cC, Value.slice aK lK cK, Value.slice aA args.length cA, Value.slice aR arms.length cR] 88)).heap[wr.heap.size]? = some _ := heap_alloc_at _ _
      have HN := Lib.hid hN
      have hcs1 := hcs.1
      clear p1 p2 p3 p4 hs he2 he3 hcs hb1 hN
      by_cases h3 : op = 3
      · have hf : 0 ≤ fn ∧ fn < k := by
          simp only [h3] at hcs1
          simp at hcs1
          omega
        obtain ⟨fk, rfl⟩ := Int.eq_ofNat_of_zero_le hf.1
        have hfl : fk < ws.length := by omega
        obtain ⟨bt, ot, ct', het, hbt, hct⟩ := int_cell (HIN.out.kept (S := []) (Keep.of_below HB1.out) (fun x hx => by cases hx)) hfl
        injection het with e1 e2 e3
        subst e1
        have hx := HSM.out ws[fk] (List.getElem_mem _)
        generalize hxv : ws[fk] = xv at hct hx
        have hts : takesS 1000 ws (.mk op name at_ fk names e args arms) m = takesAs 1000 ws arms (m + xv) := by
          simp only [takesS, h3, if_true]
          rw [Int.toNat_natCast, List.getD_eq_getElem?_getD, List.getElem?_eq_getElem hfl, hxv]; rfl
        have HTS := Lib.hid hts
        subst h3
        clear hts hxv e2 e3 hcs1
        go_wp2_with fail
        go_loopw [5, 29] (fun n i w2 => TakARel ws arms (m + xv) w n i w2) (fun _ i _ => arms.length - (intOf i).toNat)
        case atStart => exact ⟨0, (m + xv), Nat.zero_le _, rfl, rfl, by omega, by omega, rfl, HB1.out⟩
        case round =>
          obtain ⟨i, m2, hi, rfl, rfl, hm2, hm3, hdo2, hb2⟩ := hrel
          have HDO2 := Lib.hid hdo2
          have HB2 := Lib.hid hb2
          have hbs2 := hb2.size
          clear hdo2 hb2
          by_cases hlt2 : i < arms.length
          · obtain ⟨ba, oa, ca, Ab, cb, hae, hab, ha0, ha1, hbody⟩ := arm_cells HAR.out (HW.out.trans (HB2.out.mono hW0)) hlt2
            injection hae with e1 e2 e3
            subst e1
            have hAg : arms[i]? = some arms[i] := List.getElem?_eq_getElem hlt2
            have htA := takesAs_at (c := 1000) (w := ws) hAg m2
            have hge := takesL_ge (c := 1000) (w := ws) (by omega) (fun x hx => (HSM.out x hx).1) arms[i].body 0 (by omega)
            have hle := takesL_le (c := 1000) (w := ws) arms[i].body 0 (by omega)
            have hcl := callsAs_at HCA.out hAg
            have HBO := Lib.hid hbody
            generalize hai : arms[i] = a at *
            generalize htl : takesL 1000 ws a.body 0 = x at *
            have HTA := Lib.hid htA
            have HTL := Lib.hid htl
            have HCL := Lib.hid hcl
            clear htA htl hcl hAg hbody e2 e3 hai
            go_wp2_with fail
            have hb3 := HB2.out.alloc hbs2 (Obj.cells #[Value.int IntKind.i64 a.n, Value.slice Ab a.body.length cb] 90)
            refine (HIHn.out a.body Ab cb k _ _ ws (HW.out.trans (hb3.mono hW0)) HBO.out HCL.out hk (HIN.out.kept (S := []) (Keep.of_below hb3) (fun x hx => by cases hx)) HSM.out hwl).mono ?_
            rintro e4 w4 ⟨rfl, hb4⟩
            rw [HTL.out]
            have HB4 := Lib.hid (hb3.trans (hb4.mono hb3.size))
            clear hb3 hb4
            go_wp2_with fail
            exact ⟨⟨i + 1, m2 + x, hlt2, by simp, rfl, by omega, by omega, by rw [HDO2.out, HTA.out], HB4.out⟩, by simp [intOf]; omega⟩
          · obtain rfl : i = arms.length := by omega
            have hdo3 := HDO2.out
            rw [List.drop_length] at hdo3
            simp only [takesAs] at hdo3
            have hfin := takesL_at (c := 1000) (w := ws) HG.out m
            rw [HTS.out, hdo3] at hfin
            have HFIN := Lib.hid hfin
            clear hdo3 hfin
            go_wp2_with fail
            exact ⟨⟨j + 1, (if 1000 < m2 then 1000 else m2), hlt, by simp, rfl, by split <;> omega, by split <;> omega, by rw [HDO.out, HFIN.out, min_if], HB2.out⟩, by simp [intOf]; omega⟩
      · have h3' : (op == 3) = false := by simp [h3]
        have hts : takesS 1000 ws (.mk op name at_ fn names e args arms) m = takesAs 1000 ws arms m := by
          simp only [takesS, h3, if_false]
        have HTS := Lib.hid hts
        clear hts hcs1
        go_wp2_with fail
        go_loopw [5, 29] (fun n i w2 => TakARel ws arms m w n i w2) (fun _ i _ => arms.length - (intOf i).toNat)
        case atStart => exact ⟨0, m, Nat.zero_le _, rfl, rfl, by omega, by omega, rfl, HB1.out⟩
        case round =>
          obtain ⟨i, m2, hi, rfl, rfl, hm2, hm3, hdo2, hb2⟩ := hrel
          have HDO2 := Lib.hid hdo2
          have HB2 := Lib.hid hb2
          have hbs2 := hb2.size
          clear hdo2 hb2
          by_cases hlt2 : i < arms.length
          · obtain ⟨ba, oa, ca, Ab, cb, hae, hab, ha0, ha1, hbody⟩ := arm_cells HAR.out (HW.out.trans (HB2.out.mono hW0)) hlt2
            injection hae with e1 e2 e3
            subst e1
            have hAg : arms[i]? = some arms[i] := List.getElem?_eq_getElem hlt2
            have htA := takesAs_at (c := 1000) (w := ws) hAg m2
            have hge := takesL_ge (c := 1000) (w := ws) (by omega) (fun x hx => (HSM.out x hx).1) arms[i].body 0 (by omega)
            have hle := takesL_le (c := 1000) (w := ws) arms[i].body 0 (by omega)
            have hcl := callsAs_at HCA.out hAg
            have HBO := Lib.hid hbody
            generalize hai : arms[i] = a at *
            generalize htl : takesL 1000 ws a.body 0 = x at *
            have HTA := Lib.hid htA
            have HTL := Lib.hid htl
            have HCL := Lib.hid hcl
            clear htA htl hcl hAg hbody e2 e3 hai
            go_wp2_with fail
            have hb3 := HB2.out.alloc hbs2 (Obj.cells #[Value.int IntKind.i64 a.n, Value.slice Ab a.body.length cb] 90)
            refine (HIHn.out a.body Ab cb k _ _ ws (HW.out.trans (hb3.mono hW0)) HBO.out HCL.out hk (HIN.out.kept (S := []) (Keep.of_below hb3) (fun x hx => by cases hx)) HSM.out hwl).mono ?_
            rintro e4 w4 ⟨rfl, hb4⟩
            rw [HTL.out]
            have HB4 := Lib.hid (hb3.trans (hb4.mono hb3.size))
            clear hb3 hb4
            go_wp2_with fail
            exact ⟨⟨i + 1, m2 + x, hlt2, by simp, rfl, by omega, by omega, by rw [HDO2.out, HTA.out], HB4.out⟩, by simp [intOf]; omega⟩
          · obtain rfl : i = arms.length := by omega
            have hdo3 := HDO2.out
            rw [List.drop_length] at hdo3
            simp only [takesAs] at hdo3
            have hfin := takesL_at (c := 1000) (w := ws) HG.out m
            rw [HTS.out, hdo3] at hfin
            have HFIN := Lib.hid hfin
            clear hdo3 hfin
            go_wp2_with fail
            exact ⟨⟨j + 1, (if 1000 < m2 then 1000 else m2), hlt, by simp, rfl, by split <;> omega, by split <;> omega, by rw [HDO.out, HFIN.out, min_if], HB2.out⟩, by simp [intOf]; omega⟩
    · obtain rfl : j = l.length := by omega
      go_wp2_with fail
      go_ret
      refine ⟨?_, HB.out⟩
      rw [HDO.out, List.drop_length, takesL_nil]; rfl
theorem steps_any (W : World) : ∀ n, StepsC W n := by
  intro n
  induction n with
  | zero =>
    intro l A c k w vt ws hW hrep hcal hk hin hsm hwl
    obtain ⟨hl, hr⟩ := repS_nil (n := 1) hrep
    exact steps_core l A c k w vt ws hW hr hcal hk hin hsm hwl (fun h => absurd hl h)
  | succ n ih => exact fun l A c k w vt ws hW hrep hcal hk hin hsm hwl => steps_core l A c k w vt ws hW hrep hcal hk hin hsm hwl (fun _ => ih)
end Go.Proofs.YtoaajpppbjaomaaGreatDoor
