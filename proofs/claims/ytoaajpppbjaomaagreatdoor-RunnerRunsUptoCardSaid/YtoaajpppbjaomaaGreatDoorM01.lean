/- Texts merged by program: parts Sp, Qt, Mm, Mp, Wa, Ra. -/
import Derived.RowKit
import Derived.StillTailTactics
import Derived.Deep.QuietTactic
import Derived.Deep.Draws
import Derived.Test.YtoaajpppbjaomaaGreatDoorRows
import Derived.WalkKit
import Derived.WalkSpells
import Derived.WalkLawsBesides
import Derived.BigQuiet
import Derived.Lib.Hide
import Derived.Laws.EntriesVeiled
import Derived.Maps.OwnOps
import Derived.MapKept
/- The plain side of layer 21: flat programs as Lean data, and one interpreter of them, to which both texts are held. -/
namespace Go.Proofs.YtoaajpppbjaomaaGreatDoor
open Go.RowKit (wrap64)

inductive XE where
  | mk (op : Int) (name : ByteArray) (n : Int) (kids : List XE)
structure PT where
  at_ : Int
  fn : Int
mutual
inductive FS where
  | mk (op : Int) (name : ByteArray) (at_ fn : Int) (names : List ByteArray) (e : XE) (args : List XE) (arms : List FA)
inductive FA where
  | mk (n : Int) (body : List FS)
end
structure FN where
  params : List ByteArray
  results : List ByteArray
  cells : Int
  flags : List Int
  parts : List PT
  body : List FS
instance : Inhabited XE := ⟨.mk 0 ⟨#[]⟩ 0 []⟩
instance : Inhabited PT := ⟨⟨0, 0⟩⟩
instance : Inhabited FS := ⟨.mk 0 ⟨#[]⟩ 0 0 [] default [] []⟩
instance : Inhabited FA := ⟨.mk 0 []⟩
instance : Inhabited FN := ⟨⟨[], [], 0, [], [], []⟩⟩
def FS.op : FS → Int | .mk op _ _ _ _ _ _ _ => op
def FS.name : FS → ByteArray | .mk _ s _ _ _ _ _ _ => s
def FS.at_ : FS → Int | .mk _ _ a _ _ _ _ _ => a
def FS.fn : FS → Int | .mk _ _ _ f _ _ _ _ => f
def FS.names : FS → List ByteArray | .mk _ _ _ _ l _ _ _ => l
def FS.e : FS → XE | .mk _ _ _ _ _ e _ _ => e
def FS.args : FS → List XE | .mk _ _ _ _ _ _ l _ => l
def FS.arms : FS → List FA | .mk _ _ _ _ _ _ _ l => l
def FA.n : FA → Int | .mk n _ => n
def FA.body : FA → List FS | .mk _ l => l
def XE.op : XE → Int | .mk op _ _ _ => op
def XE.name : XE → ByteArray | .mk _ s _ _ => s
def XE.n : XE → Int | .mk _ _ n _ => n
def XE.kids : XE → List XE | .mk _ _ _ l => l

/-! ### words -/
def truth (b : Bool) : Int := if b then 1 else 0
def minI : Int := -9223372036854775808
def unop (s : ByteArray) (a : Int) : Option Int :=
  if s = ⟨#[45]⟩ then some (wrap64 (-a)) else if s = ⟨#[110, 111, 116]⟩ then some (truth (a == 0)) else none
def binop (s : ByteArray) (a b : Int) : Option Int :=
  if s = ⟨#[43]⟩ then some (wrap64 (a + b))
  else if s = ⟨#[45]⟩ then some (wrap64 (a - b))
  else if s = ⟨#[42]⟩ then some (wrap64 (a * b))
  else if s = ⟨#[47]⟩ then some (if b = 0 ∨ (a = minI ∧ b = -1) then 0 else a.tdiv b)
  else if s = ⟨#[37]⟩ then some (if b = 0 ∨ (a = minI ∧ b = -1) then 0 else a.tmod b)
  else if s = ⟨#[60]⟩ then some (truth (decide (a < b)))
  else if s = ⟨#[60, 61]⟩ then some (truth (decide (a ≤ b)))
  else if s = ⟨#[61]⟩ then some (truth (a == b))
  else if s = ⟨#[60, 62]⟩ then some (truth (a != b))
  else if s = ⟨#[97, 110, 100]⟩ then some (truth (a != 0 && b != 0))
  else if s = ⟨#[111, 114]⟩ then some (truth (a != 0 || b != 0))
  else none

/-! ### expressions -/
abbrev Mem := List (Option Int)
abbrev Vars := List (ByteArray × Option Int)
def getv : Vars → ByteArray → Option Int
  | [], _ => none
  | (t, o) :: r, s => if t = s then o else getv r s
def setv : Vars → ByteArray → Option Int → Vars
  | [], s, o => [(s, o)]
  | (t, x) :: r, s, o => if t = s then (t, o) :: r else (t, x) :: setv r s o
def setvs : Vars → List ByteArray → List Int → Vars
  | vs, s :: l, v :: r => setvs (setv vs s (some v)) l r
  | vs, _, _ => vs
/-- none: a trap; some none: undefined. -/
def value (vs : Vars) (mem : Mem) (base : Nat) : XE → Option (Option Int)
  | .mk op name n [] =>
    if op = 1 then some (some n)
    else if op = 4 then some (getv vs name)
    else if op = 16 then (if 0 ≤ n ∧ n < (mem.length : Int) - base then some (mem.getD (base + n.toNat) none) else none)
    else some none
  | .mk op name _ [a] =>
    if op = 5 then (value vs mem base a).map fun x => x.bind fun x => unop name x
    else some none
  | .mk op name _ [a, b] =>
    if op = 6 then (value vs mem base a).bind fun x => (value vs mem base b).map fun y => x.bind fun x => y.bind fun y => binop name x y
    else some none
  | .mk op _ _ [a, b, c] =>
    if op = 7 then (value vs mem base a).bind fun x => match x with
      | none => some none
      | some v => if v ≠ 0 then value vs mem base b else value vs mem base c
    else some none
  | .mk _ _ _ (_ :: _ :: _ :: _ :: _) => some none
def evalArgs (vs : Vars) (mem : Mem) (base : Nat) : List XE → Option (List Int)
  | [] => some []
  | a :: r => match value vs mem base a with
    | some (some v) => (evalArgs vs mem base r).map (v :: ·)
    | _ => none

/-! ### memory -/
def clearM (mem : Mem) (base n : Nat) : Mem := mem.take base ++ List.replicate n none ++ mem.drop (base + n)
def anewF (funs : List FN) : Nat → Nat → Nat → Mem → Mem
  | 0, _, _, mem => mem
  | n + 1, k, base, mem =>
    let f := funs.getD k default
    let m1 := clearM mem base f.cells.toNat
    let m2 := f.flags.foldl (fun m i => m.set (base + i.toNat) (some 1)) m1
    f.parts.foldl (fun m p => anewF funs n p.fn.toNat (base + p.at_.toNat) m) m2
def further (len base : Nat) (n : Int) : Nat := if n < 0 ∨ n > (len : Int) - base then len else base + n.toNat

/-! ### statements -/
structure St where
  mem : Mem
  cnt : Int
  vs : Vars
abbrev Inst := Nat → Nat → List Int → Mem → Int → Option (List Int) × Mem × Int
def doStep (I : Inst) (funs : List FN) (base : Nat) (at_ fn : Int) (names : List ByteArray) (args : List XE) (st : St) : Bool × St :=
  let x := funs.getD fn.toNat default
  if x.params.length = args.length ∧ x.results.length = names.length then
    match evalArgs st.vs st.mem base args with
    | none => (false, st)
    | some l =>
      match I fn.toNat (further st.mem.length base at_) l st.mem st.cnt with
      | (none, mem, cnt) => (false, { st with mem := mem, cnt := cnt })
      | (some out, mem, cnt) => (true, { mem := mem, cnt := cnt, vs := setvs st.vs names out })
  else (false, st)
def doReset (funs : List FN) (base : Nat) (at_ fn : Int) (st : St) : Bool × St :=
  if 0 ≤ at_ ∧ at_ ≤ (st.mem.length : Int) - base ∧ (funs.getD fn.toNat default).cells ≤ (st.mem.length : Int) - further st.mem.length base at_ then
    (true, { st with mem := anewF funs funs.length fn.toNat (further st.mem.length base at_) st.mem })
  else (false, st)
def doKeep (base : Nat) (at_ : Int) (e : XE) (st : St) : Bool × St :=
  match value st.vs st.mem base e with
  | some (some v) => if 0 ≤ at_ ∧ at_ < (st.mem.length : Int) - base then (true, { st with mem := st.mem.set (base + at_.toNat) (some v) }) else (false, st)
  | _ => (false, st)
def doSet (base : Nat) (name : ByteArray) (e : XE) (st : St) : Bool × St :=
  match value st.vs st.mem base e with
  | none => (false, st)
  | some o => (true, { st with vs := setv st.vs name o })
mutual
def doL (I : Inst) (funs : List FN) (base : Nat) : List FS → St → Bool × St
  | [], st => (true, st)
  | s :: r, st => match doS I funs base s { st with cnt := wrap64 (st.cnt + 1) } with
    | (true, st') => doL I funs base r st'
    | (false, st') => (false, st')
def doS (I : Inst) (funs : List FN) (base : Nat) : FS → St → Bool × St
  | .mk op name at_ fn names e args arms, st =>
    if op = 1 then doSet base name e st
    else if op = 2 then doKeep base at_ e st
    else if op = 3 then doStep I funs base at_ fn names args st
    else if op = 4 then doReset funs base at_ fn st
    else if op = 5 then (match getv st.vs name with
      | none => (false, st)
      | some v => doAs I funs base arms v st)
    else (false, st)
def doAs (I : Inst) (funs : List FN) (base : Nat) : List FA → Int → St → Bool × St
  | [], _, st => (true, st)
  | a :: r, v, st => if a.n = v then doA I funs base a st else doAs I funs base r v st
def doA (I : Inst) (funs : List FN) (base : Nat) : FA → St → Bool × St
  | .mk _ body, st => doL I funs base body st
end
def resultsV (vs : Vars) : List ByteArray → Option (List Int)
  | [] => some []
  | s :: r => match getv vs s with
    | none => none
    | some v => (resultsV vs r).map (v :: ·)
def instF (funs : List FN) : Nat → Inst
  | 0, _, _, _, mem, cnt => (none, mem, cnt)
  | n + 1, k, base, ins, mem, cnt =>
    let f := funs.getD k default
    match doL (instF funs n) funs base f.body { mem := mem, cnt := cnt, vs := setvs [] f.params ins } with
    | (false, st) => (none, st.mem, st.cnt)
    | (true, st) => (resultsV st.vs f.results, st.mem, st.cnt)

/-! ### which flat programs can be run -/
mutual
def callsL : List FS → Int → Bool
  | [], _ => true
  | s :: r, k => callsS s k && callsL r k
def callsS : FS → Int → Bool
  | .mk op _ _ fn _ _ _ arms, k => !((op == 3 || op == 4) && (decide (fn < 0) || decide (k ≤ fn))) && callsAs arms k
def callsAs : List FA → Int → Bool
  | [], _ => true
  | a :: r, k => callsA a k && callsAs r k
def callsA : FA → Int → Bool
  | .mk _ body, k => callsL body k
end
def flagOk (c n : Int) : Bool := decide (0 ≤ n) && decide (n < c)
def partOk (funs : List FN) (c : Int) (k : Int) (p : PT) : Bool :=
  decide (0 ≤ p.fn) && decide (p.fn < k) && decide (0 ≤ p.at_) && decide (p.at_ ≤ c) && decide ((funs.getD p.fn.toNat default).cells ≤ c - p.at_)
def rightAt (funs : List FN) (k : Nat) : Bool :=
  let x := funs.getD k default
  decide (0 ≤ x.cells) && decide (x.cells ≤ 1000) && callsL x.body k && x.flags.all (flagOk x.cells) && x.parts.all (partOk funs x.cells k)
def rightF (funs : List FN) : Bool := (List.range funs.length).all (rightAt funs) && decide (0 < funs.length)
mutual
def takesL (c : Int) (w : List Int) : List FS → Int → Int
  | [], n => n
  | s :: r, n => takesL c w r (min (takesS c w s n) c)
def takesS (c : Int) (w : List Int) : FS → Int → Int
  | .mk op _ _ fn _ _ _ arms, n => takesAs c w arms (if op = 3 then n + w.getD fn.toNat 0 else n)
def takesAs (c : Int) (w : List Int) : List FA → Int → Int
  | [], n => n
  | a :: r, n => takesAs c w r (n + takesA c w a)
def takesA (c : Int) (w : List Int) : FA → Int
  | .mk _ body => takesL c w body 0
end
def weightAt (ws : List Int) (f : FN) : Int := f.parts.foldl (fun n p => min (n + ws.getD p.fn.toNat 0) 1001) 1
def weightsUpto (funs : List FN) : Nat → List Int
  | 0 => []
  | k + 1 => let ws := weightsUpto funs k; ws ++ [weightAt ws (funs.getD k default)]
/-- as the reference has it -/
def takesUpto (funs : List FN) : Nat → List Int
  | 0 => []
  | k + 1 => let ws := takesUpto funs k; ws ++ [min (1 + takesL 1001 ws (funs.getD k default).body 0) 1001]
/-- as the runner has it -/
def stepsUpto (funs : List FN) : Nat → List Int
  | 0 => []
  | k + 1 => let ws := stepsUpto funs k; ws ++ [1 + takesL 1000 ws (funs.getD k default).body 0]

/-! ### a runner -/
structure RS where
  mem : Mem
  trapped : Bool
  count : Int
def lastF (funs : List FN) : Nat := funs.length - 1
def heavyF (funs : List FN) : Bool := decide (1000 < (weightsUpto funs funs.length).getD (lastF funs) 0) || decide (1000 < (takesUpto funs funs.length).getD (lastF funs) 0)
def newF (funs : List FN) : RS :=
  { mem := anewF funs funs.length (lastF funs) 0 (List.replicate (funs.getD (lastF funs) default).cells.toNat none), trapped := false, count := 0 }
def beginF (funs : List FN) (r : RS) : RS := { mem := anewF funs funs.length (lastF funs) 0 r.mem, trapped := false, count := 0 }
def stepF (funs : List FN) (r : RS) (ins : List Int) : RS × List Int × Int :=
  if ins.length ≠ (funs.getD (lastF funs) default).params.length then (r, [], 1)
  else if r.trapped then (r, [], 13)
  else match instF funs funs.length (lastF funs) 0 ins r.mem 0 with
    | (none, mem, cnt) => ({ mem := mem, trapped := true, count := cnt }, [], 12)
    | (some l, mem, cnt) => ({ mem := mem, trapped := false, count := cnt }, l, 0)
def definedF (m : Mem) : Nat := m.countP (·.isSome)
end Go.Proofs.YtoaajpppbjaomaaGreatDoor
/- A drawn region whose first n operations are quiet (they leave a world of a class) and whose last ones stand in one forced order: the first ones may be walked in the text's order. (The library has this for operations that leave the world itself: Derived/StillTail; here over Derived/Deep/Quiet's classes.) -/
namespace Go.Proofs.YtoaajpppbjaomaaGreatDoor
open Go
section
variable {P : Program} {md : Region.Mode} {ops : Array Oper} {C : World → Prop}
/-- whatever quiet operation below n comes up; behind f of them, L -/
def QHead (P : Program) (md : Region.Mode) (ops : Array Oper) (C : World → Prop) (n : Nat) (L : Array Bool → Act → Prop) : Nat → Array Bool → Act → Prop
  | 0, done, a => L done a
  | f + 1, done, a => Region.ready md ops done ≠ [] ∧ ∀ i ∈ Region.ready md ops done, i < n ∧ qOp P ops C i (QHead P md ops C n L f (done.setIfInBounds i true)) a
theorem any_of_qhead {n g : Nat} {L : Array Bool → Act → Prop} {Q : Exit → Act → World → Prop} (hL : ∀ done a w, C w → L done a → wpAny P md ops Q g done a w) (f : Nat) :
    ∀ (done : Array Bool) (a : Act) (w : World), C w → QHead P md ops C n L f done a → wpAny P md ops Q (f + g) done a w := by
  induction f with
  | zero => intro done a w hw h; rw [Nat.zero_add]; exact hL _ _ _ hw h
  | succ f ih =>
    intro done a w hw h
    rw [show f + 1 + g = (f + g) + 1 by omega]
    exact ⟨fun h0 => absurd h0 h.1, fun i hi => wpOp_of_qOp hw (fun a' w' hw' h' => ih _ a' w' hw' h') (h.2 i hi).2⟩
theorem qhead_first {n i : Nat} {oi : Oper} {v : Value} {L : Array Bool → Act → Prop} (hi : ops[i]? = some oi) (hsel : ∀ (j : Nat) (o : Oper) cs b, ops[j]? = some o → o.op ≠ .select cs b)
    (hs : Region.sinkB md ops n = true) (hc : Region.chainB md ops n = true) (hn : n < ops.size) (hin : i < n)
    (hL : ∀ done a, L done a → ∀ j ∈ Region.ready md ops done, n ≤ j) (f : Nat) :
    ∀ (done : Array Bool) (a : Act), HeadInv md ops n done →
      (∀ j oj, ops[j]? = some oj → j ≠ i → done.getD j true = false → (∀ e ∈ oj.after, Region.binds md e = true → e.on ≠ i) → oi.apart ops oj = true) →
      i ∈ Region.ready md ops done → YieldsIn P ops C oi v a →
      QHead P md ops C n L f (done.setIfInBounds i true) (a.put oi.dst v) → QHead P md ops C n L (f + 1) done a := by
  induction f with
  | zero =>
    intro done a inv _ hr hy H
    have hun := (mem_ready.1 hr).1
    refine ⟨List.ne_nil_of_mem hr, fun j hj => ?_⟩
    have hjn : j < n := Nat.lt_of_not_le fun h => tail_waits hs hc hn inv _ i rfl hin hun j h hj
    refine ⟨hjn, ?_⟩
    by_cases hji : j = i
    · rw [hji]; exact hy.qOp hi H
    · exact absurd (hL _ _ H j (ready_mono hj hji)) (by omega)
  | succ f ih =>
    intro done a inv hfree hr hy H
    have hun := (mem_ready.1 hr).1
    refine ⟨List.ne_nil_of_mem hr, fun j hj => ?_⟩
    have hjn : j < n := Nat.lt_of_not_le fun h => tail_waits hs hc hn inv _ i rfl hin hun j h hj
    refine ⟨hjn, ?_⟩
    by_cases hji : j = i
    · rw [hji]; exact hy.qOp hi H
    · obtain ⟨hjun, oj, hoj, hall⟩ := mem_ready.1 hj
      have hnot : ∀ e ∈ oj.after, Region.binds md e = true → e.on ≠ i := by
        intro e he hb heq
        have h1 := hall e he hb
        rw [heq, getD_both hun] at h1
        cases h1
      have h2 := qOp_put hoj (hfree j oj hoj hji hjun hnot) (fun cs b => hsel i oi cs b hi) (fun cs b => hsel j oj cs b hoj) hy (H.2 j (ready_mono hj hji)).2
      refine qOp_mono (fun a' h3 => ih (done.setIfInBounds j true) a' (inv.set hj hjn) ?_ (ready_mono hr (Ne.symm hji)) h3.1 (by rw [Array.setIfInBounds_comm _ _ hji]; exact h3.2)) h2
      intro k ok hk hki hun' hno
      refine hfree k ok hk hki ?_ hno
      by_cases hjk : j = k
      · rw [← hjk]; exact hjun
      · rwa [getD_set_ne true hjk] at hun'
theorem qhead_lex {n g : Nat} {Lq : Act → Prop} (hsel : Region.noSelect ops = true) (hs : Region.sinkB md ops n = true) (hc : Region.chainB md ops n = true) (hn : n < ops.size) (l : List Oper) :
    ∀ (k : Nat) (done : Array Bool) (a : Act), (∀ j, j < l.length → l[j]? = ops[k + j]?) → k + l.length = n → HeadInv md ops n done →
    Region.lexHead md ops g l.length k done = true → wpQuiet P ops C Lq l a →
    QHead P md ops C n (fun done' a' => Region.seqB md ops g n done' = true ∧ Lq a') l.length done a := by
  induction l with
  | nil =>
    intro k done a _ hk _ hB h
    obtain rfl : k = n := by simpa using hk
    exact ⟨by simpa [Region.lexHead] using hB, h⟩
  | cons o l ih =>
    intro k done a hl hk inv hB h
    have h0 : ops[k]? = some o := by simpa using (hl 0 (by simp)).symm
    simp only [List.length_cons, Region.lexHead, Bool.and_eq_true] at hB
    obtain ⟨⟨hr, hf⟩, hB'⟩ := hB
    simp only [List.length_cons] at hk
    have hr' : k ∈ Region.ready md ops done := by simpa using hr
    have hq : qOp P ops C k (wpQuiet P ops C Lq l) a := by unfold qOp; simp only [h0]; exact h
    obtain ⟨v, hy, hK⟩ := yieldsIn_of_qOp h0 hq
    exact qhead_first h0 (Region.noSelect_spec hsel) hs hc hn (by omega) (fun done' a' hL => seqB_ready hL.1) l.length done a inv (Region.free_spec h0 hf) hr' hy
      (ih (k + 1) _ _ (fun j hj => by have := hl (j + 1) (by simp; omega); simpa [Nat.add_assoc, Nat.add_comm 1 j] using this) (by omega) (inv.set hr' (by omega)) hB' hK)
end
theorem region_qtail_in {P : Program} {C : World → Prop} {id : Nat} {Q : Exit → Act → World → Prop} {a : Act} {w : World} {l : List Oper} (n : Nat) (hm : P.follows .mixedOrders = true) (hB : Region.lexTailB .any l.toArray n = true)
    (hC : C w.drew) (h : wpQuiet P l.toArray C (fun a' => ∀ w', C w' → wpList P l.toArray Q (l.drop n) a' w') (l.take n) a) : (Code.region id l.toArray true).wp P Q a w := by
  simp only [Region.lexTailB, Bool.and_eq_true, decide_eq_true_eq] at hB
  obtain ⟨⟨⟨⟨hsel, hn⟩, hs⟩, hc⟩, hlex⟩ := hB
  have hn' : n < l.length := by simpa using hn
  have htl : (l.take n).length = n := by simp; omega
  have hdl : (l.drop n).length = l.toArray.size - n := by simp
  have inv0 : HeadInv .any l.toArray n (Array.replicate l.toArray.size false) :=
    ⟨by simp, fun j oj _ hl => (by rw [getD_replicate_false] at hl; cases hl), fun t _ ht => getD_in (by simpa using ht) (getD_replicate_false _ _)⟩
  have H := qhead_lex (md := .any) (g := l.toArray.size - n) hsel hs hc hn (l.take n) 0 _ a (fun j hj => by
    have hj' : j < n := by rw [htl] at hj; exact hj
    simp [hj']) (by simpa using htl) inv0 (by rw [htl]; exact hlex) h
  refine wp_region_any hm ?_
  have := any_of_qhead (Q := Q) (g := l.toArray.size - n) (fun done a w' hw' hL => by
    have h3 := wpAny_of_seq (md := .any) (Q' := Q) (l.drop n) n done a w' (fun j => by simp [List.getElem?_drop]) (by rw [hdl]; exact hL.1) (hL.2 w' hw')
    rwa [hdl] at h3) _ _ _ _ hC H
  rw [htl, show n + (l.toArray.size - n) = l.toArray.size by omega] at this
  exact this
theorem region_qtail {P : Program} {id : Nat} {Q : Exit → Act → World → Prop} {a : Act} {w : World} {l : List Oper} (n : Nat) (hm : P.follows .mixedOrders = true) (hB : Region.lexTailB .any l.toArray n = true)
    (h : wpQuiet P l.toArray (fun w' => ∃ n, w' = w.drewN n) (fun a' => ∀ k, wpList P l.toArray Q (l.drop n) a' (w.drewN k)) (l.take n) a) : (Code.region id l.toArray true).wp P Q a w := by
  refine region_qtail_in (C := fun w' => ∃ n, w' = w.drewN n) n hm hB ⟨1, rfl⟩ ?_
  have e : (fun a' => ∀ w', (∃ n, w' = w.drewN n) → wpList P l.toArray Q (l.drop n) a' w') = (fun a' => ∀ k, wpList P l.toArray Q (l.drop n) a' (w.drewN k)) := by
    funext a'
    apply propext
    exact ⟨fun h2 k => h2 _ ⟨k, rfl⟩, fun h2 w' ⟨k, hk⟩ => by rw [hk]; exact h2 k⟩
  rw [e]; exact h
/-- one operation of a quiet walk, its value known in every world of the class -/
theorem bq_step {P : Program} {ops : Array Oper} {C : World → Prop} {Q : Act → Prop} {a : Act} {o : Oper} {rest : List Oper} (v : Value) (hw : Region.wanted o (yielded ops a.tmps) = true)
    (hv : ∀ w, C w → o.quietAt P a C w v) (h : wpQuiet P ops C Q rest (a.put o.dst v)) : wpQuiet P ops C Q (o :: rest) a :=
  wpQuiet_step (fun K hK => by rw [if_pos hw]; exact ⟨v, hv, hK _ h⟩)
end Go.Proofs.YtoaajpppbjaomaaGreatDoor
/- How flat programs and runners lie in memory: predicates, and what becomes of them as the world goes on. -/
namespace Go.Proofs.YtoaajpppbjaomaaGreatDoor
open Go.RowKit

/-! ### worlds -/
structure Keep (S : List Nat) (w w' : World) : Prop where
  os : w'.os = w.os
  tape : w'.tape = w.tape
  output : w'.output = w.output
  size : w.heap.size ≤ w'.heap.size
  block : ∀ k, k < w.heap.size → k ∉ S → w'.heap[k]? = w.heap[k]?
theorem Keep.refl (S : List Nat) (w : World) : Keep S w w := ⟨rfl, rfl, rfl, Nat.le_refl _, fun _ _ _ => rfl⟩
theorem Keep.trans {S : List Nat} {a b c : World} (h : Keep S a b) (k : Keep S b c) : Keep S a c :=
  ⟨k.os.trans h.os, k.tape.trans h.tape, k.output.trans h.output, Nat.le_trans h.size k.size, fun i hi hs => (k.block i (Nat.lt_of_lt_of_le hi h.size) hs).trans (h.block i hi hs)⟩
theorem Keep.mono {S S' : List Nat} {w w' : World} (h : Keep S w w') (hs : ∀ x, x ∈ S → x ∈ S') : Keep S' w w' :=
  ⟨h.os, h.tape, h.output, h.size, fun k hk hn => h.block k hk (fun hm => hn (hs k hm))⟩
/-- what was written is new at the elder world -/
theorem Keep.old {S S' : List Nat} {a b c : World} (h : Keep S a b) (k : Keep S' b c) (hs : ∀ x, x ∈ S' → x ∈ S ∨ a.heap.size ≤ x) : Keep S a c :=
  ⟨k.os.trans h.os, k.tape.trans h.tape, k.output.trans h.output, Nat.le_trans h.size k.size, fun i hi hn => (k.block i (Nat.lt_of_lt_of_le hi h.size) (fun hm => by
    rcases hs i hm with h1 | h1
    · exact hn h1
    · omega)).trans (h.block i hi hn)⟩
theorem Keep.of_below {w w' : World} {S : List Nat} (h : Below w.heap.size w w') : Keep S w w' := ⟨h.os, h.tape, h.output, h.size, fun k hk _ => h.block k hk⟩
theorem Keep.below {B : Nat} {S : List Nat} {a w w' : World} (hb : Below B a w) (h : Keep S w w') (hB : B ≤ w.heap.size) (hs : ∀ x, x ∈ S → B ≤ x) : Below B a w' :=
  hb.trans ⟨h.os, h.tape, h.output, h.size, fun k hk => h.block k (by omega) (fun hm => by have := hs k hm; omega)⟩
theorem Keep.drew {S : List Nat} {a w : World} (h : Keep S a w) : Keep S a w.drew := ⟨h.os, h.tape, h.output, h.size, h.block⟩
theorem Keep.alloc {S : List Nat} {a w : World} (h : Keep S a w) (o : Obj) : Keep S a (w.alloc o) :=
  h.trans ⟨rfl, rfl, rfl, by simp, fun k hk _ => Below.heap_alloc _ _ _ hk⟩
theorem Keep.setCell {S : List Nat} {a w : World} (h : Keep S a w) {p : Addr} (hp : p.block ∈ S ∨ a.heap.size ≤ p.block) (u : Value) : Keep S a (w.setCell p u) :=
  h.old (S' := [p.block]) ⟨rfl, rfl, rfl, by simp [World.setCell], fun k _ hk => Below.heap_setCell _ _ _ _ (by simpa using hk)⟩ (fun x hx => by
    have : x = p.block := by simpa using hx
    subst this; exact hp)
def World.setObj (w : World) (r : Nat) (o : Obj) : World := { w with heap := w.heap.setIfInBounds r o }
theorem Keep.setObj {S : List Nat} {a w : World} (h : Keep S a w) {r : Nat} (hp : r ∈ S ∨ a.heap.size ≤ r) (o : Obj) : Keep S a { w with heap := w.heap.setIfInBounds r o } :=
  h.old (S' := [r]) ⟨rfl, rfl, rfl, by simp, fun k _ hk => by
    have : r ≠ k := fun e => hk (by simp [e])
    simp [this]⟩ (fun x hx => by
    have : x = r := by simpa using hx
    subst this; exact hp)

theorem cellB {w : World} {b : Nat} {c : Array Value} {t : TypeId} {z : Nat × Nat} (h : w.heap[b]? = some (.cells c t z)) (i : Nat) : w.cell? ⟨b, i, none⟩ = c[i]? := by
  simp [World.cell?, h]
theorem cellB' {w : World} {b : Nat} {c : Array Value} {t : TypeId} {z : Nat × Nat} (h : w.heap[b]? = some (.cells c t z)) (i : Nat) {v : Value} (hv : c[i]? = some v) : w.cell? ⟨b, i, none⟩ = some v := by
  rw [cellB h, hv]
theorem frozB {w : World} {b : Nat} {c : Array Value} {t : TypeId} (h : w.heap[b]? = some (.cells c t (0, 0))) (i : Nat) : w.frozen? ⟨b, i, none⟩ = false := by
  simp [World.frozen?, h]
theorem heap_setCell_eq {w : World} {b : Nat} {c : Array Value} {t : TypeId} {z : Nat × Nat} (h : w.heap[b]? = some (.cells c t z)) (i : Nat) (v : Value) :
    (w.setCell ⟨b, i, none⟩ v).heap[b]? = some (.cells (c.setIfInBounds i v) t z) := by
  simp [World.setCell, Array.getElem?_modify, h]
theorem heap_setCell_ne {w : World} {b k : Nat} (i : Nat) (v : Value) (h : k ≠ b) : (w.setCell ⟨b, i, none⟩ v).heap[k]? = w.heap[k]? :=
  Below.heap_setCell w ⟨b, i, none⟩ v k h

/-- a goal that must not be unfolded -/
@[irreducible] def Bx (p : Prop) : Prop := p
theorem bx_out {p : Prop} (h : Bx p) : p := by unfold Bx at h; exact h
theorem bx_in {p : Prop} (h : p) : Bx p := by unfold Bx; exact h
theorem bx_step {P : Program} {ops : Array Oper} {w : World} {Q : Act → Prop} {a : Act} {o : Oper} {rest : List Oper}
    (h : ∀ K : Act → Prop, (∀ a, Bx (wpStill P ops w Q rest a) → K a) → if Region.wanted o (yielded ops a.tmps) then o.still P a w K else K (a.put o.dst undef)) : Bx (wpStill P ops w Q (o :: rest) a) :=
  bx_in (wpStill_step fun K hK => h K fun a h' => hK a (bx_out h'))
theorem bx_nil {P : Program} {ops : Array Oper} {w : World} {Q : Act → Prop} {a : Act} (h : Q a) : Bx (wpStill P ops w Q [] a) := bx_in (wpStill_nil h)
theorem region_tail {P : Program} {id : Nat} {Q : Exit → Act → World → Prop} {a : Act} {w : World} {l : List Oper} (n : Nat) (hm : P.follows .mixedOrders = true) (hB : Region.lexTailB .any l.toArray n = true)
    (h : Bx (wpStill P l.toArray w.drew (fun a' => wpList P l.toArray Q (l.drop n) a' w.drew) (l.take n) a)) : (Code.region id l.toArray true).wp P Q a w :=
  wp_region_still_tail n hm hB (bx_out h)

/-! ### what lies there from the first -/
def I64 (n : Int) : Prop := -9223372036854775808 ≤ n ∧ n ≤ 9223372036854775807
def AtB (W : World) (b o : Nat) (cs : List Value) : Prop := ∀ i v, cs[i]? = some v → W.cell? ⟨b, o + i, none⟩ = some v
def RepL {α : Type} (R : α → List Value → Prop) (sz : Nat) (W : World) (b o : Nat) (xs : List α) : Prop :=
  ∀ j x, xs[j]? = some x → ∃ cs, cs.length = sz ∧ R x cs ∧ AtB W b (o + j * sz) cs
def RepV {α : Type} (R : α → List Value → Prop) (sz : Nat) (W : World) (v : Value) (xs : List α) : Prop :=
  xs.length ≤ 1048576 ∧ ∃ A c, v = .slice A xs.length c ∧ xs.length ≤ c ∧ c ≤ 9223372036854775807 ∧ (0 < xs.length → ∃ b o, A = some ⟨b, o, none⟩ ∧ b < W.heap.size ∧ RepL R sz W b o xs)
theorem RepL.imp {α : Type} {R R' : α → List Value → Prop} {sz : Nat} {W : World} {b o : Nat} {xs : List α} (h : RepL R sz W b o xs) (hr : ∀ x, x ∈ xs → ∀ cs, R x cs → R' x cs) : RepL R' sz W b o xs := by
  intro j x hj
  obtain ⟨cs, h1, h2, h3⟩ := h j x hj
  exact ⟨cs, h1, hr x (List.mem_of_getElem? hj) cs h2, h3⟩
theorem RepV.imp {α : Type} {R R' : α → List Value → Prop} {sz : Nat} {W : World} {v : Value} {xs : List α} (h : RepV R sz W v xs) (hr : ∀ x, x ∈ xs → ∀ cs, R x cs → R' x cs) : RepV R' sz W v xs := by
  obtain ⟨h1, A, c, rfl, h2, h3, h4⟩ := h
  refine ⟨h1, A, c, rfl, h2, h3, fun h5 => ?_⟩
  obtain ⟨b, o, rfl, h6, h7⟩ := h4 h5
  exact ⟨b, o, rfl, h6, h7.imp hr⟩
def RStr (s : ByteArray) (cs : List Value) : Prop := cs = [.string s] ∧ s.size ≤ 1048576
def RInt (n : Int) (cs : List Value) : Prop := cs = [.int .i64 n] ∧ I64 n
def RPart (p : PT) (cs : List Value) : Prop := cs = [.int .i64 p.at_, .int .i64 p.fn] ∧ I64 p.at_ ∧ I64 p.fn
def IsSl (v : Value) : Prop := ∃ A l c, v = .slice A l c
theorem IsSl.one {v : Value} (h : IsSl v) : v.oneCell' = true := by
  obtain ⟨A, l, c, rfl⟩ := h; rfl
def RepX (W : World) : Nat → XE → List Value → Prop
  | 0, _, _ => False
  | n + 1, .mk op name v kids, cs => ∃ vc vk, cs = [.int .i64 op, .string name, .int .i64 v, vc, vk] ∧ IsSl vc ∧ I64 op ∧ I64 v ∧ name.size ≤ 1048576 ∧ RepV (RepX W n) 5 W vk kids
def RepA (R : FS → List Value → Prop) (W : World) (a : FA) (cs : List Value) : Prop :=
  ∃ vb, cs = [.int .i64 a.n, vb] ∧ I64 a.n ∧ RepV R 12 W vb a.body
def RepS (W : World) : Nat → FS → List Value → Prop
  | 0, _, _ => False
  | n + 1, .mk op name at_ fn names e args arms, cs => ∃ vn ce va vr, cs = [.int .i64 op, .string name, .int .i64 at_, .int .i64 fn, vn] ++ ce ++ [va, vr] ∧
      I64 op ∧ I64 at_ ∧ I64 fn ∧ name.size ≤ 1048576 ∧ RepV RStr 1 W vn names ∧ RepX W n e ce ∧ RepV (RepX W n) 5 W va args ∧ RepV (RepA (RepS W n) W) 2 W vr arms
def RepF (W : World) (n : Nat) (f : FN) (cs : List Value) : Prop :=
  ∃ vp vr vf vq vb, cs = [vp, vr, .int .i64 f.cells, vf, vq, vb] ∧ I64 f.cells ∧ RepV RStr 1 W vp f.params ∧ RepV RStr 1 W vr f.results ∧ RepV RInt 1 W vf f.flags ∧ RepV RPart 2 W vq f.parts ∧ RepV (RepS W n) 12 W vb f.body

theorem AtB.below {W w : World} (hb : Below W.heap.size W w) {b o : Nat} {cs : List Value} (h : AtB W b o cs) (hlt : b < W.heap.size) : AtB w b o cs :=
  fun i v hv => (hb.cell (p := ⟨b, o + i, none⟩) hlt).trans (h i v hv)
/-- an element, as the walk wants it -/
theorem RepV.get {α : Type} {R : α → List Value → Prop} {sz : Nat} {W w : World} {v : Value} {xs : List α} (h : RepV R sz W v xs) (hb : Below W.heap.size W w) :
    ∃ A c, v = .slice A xs.length c ∧ xs.length ≤ c ∧ c ≤ 9223372036854775807 ∧ xs.length ≤ 1048576 ∧ ∀ j x, xs[j]? = some x → ∃ b o cs, A = some ⟨b, o, none⟩ ∧ b < W.heap.size ∧ cs.length = sz ∧ R x cs ∧ AtB w b (o + j * sz) cs := by
  obtain ⟨h1, A, c, rfl, h2, h3, h4⟩ := h
  refine ⟨A, c, rfl, h2, h3, h1, fun j x hj => ?_⟩
  have hlt : j < xs.length := by
    rcases Nat.lt_or_ge j xs.length with h | h
    · exact h
    · rw [List.getElem?_eq_none h] at hj; cases hj
  obtain ⟨b, o, rfl, h5, h6⟩ := h4 (by omega)
  obtain ⟨cs, h7, h8, h9⟩ := h6 j x hj
  exact ⟨b, o, cs, rfl, h5, h7, h8, h9.below hb h5⟩
theorem RepX.one {W : World} : ∀ {n : Nat} {e : XE} {cs : List Value}, RepX W n e cs → cs.length = 5
  | 0, _, _, h => h.elim
  | _ + 1, .mk _ _ _ _, _, ⟨_, _, h, _⟩ => by rw [h]; rfl

/-! ### variables in a map -/
def cellR (o : Option Int) : Value := .agg #[.int .i64 (o.getD 0), .bool o.isSome]
def cellQ (o : Option Int) : Value := .agg #[.bool o.isSome, .int .i64 (o.getD 0)]
def GoodEs (es : List MapEntry) (vs : Vars) : Prop :=
  (∀ x, x ∈ es → ∃ s o, x.key = .string s ∧ x.val = cellR o) ∧
  ∀ s, (match es.find? (fun x => match x.key with | .string t => t == s | _ => false) with | some x => x.val | none => cellR none) = cellR (getv vs s)
def VarsAt (w : World) (V : Nat) (vs : Vars) : Prop := ∃ es clk, w.heap[V]? = some (.map es clk) ∧ GoodEs es.toList vs
end Go.Proofs.YtoaajpppbjaomaaGreatDoor
/- The runner's variables: a map of strings to cells: a look-up and a store, at the operation. -/
namespace Go.Proofs.YtoaajpppbjaomaaGreatDoor
open Go.RowKit

theorem bbeq (a b : ByteArray) : (a == b) = decide (a = b) := by
  rw [Bool.eq_iff_iff, MapKept.bytes_beq]; simp
theorem bbeq_self (a : ByteArray) : (a == a) = true := by simp [bbeq]
def isKey (s : ByteArray) (x : MapEntry) : Bool := match x.key with | .string t => t == s | _ => false
theorem findNow_str (s : ByteArray) : ∀ (es : List MapEntry) (i : Nat), (∀ x, x ∈ es → ∃ t o, x.key = .string t ∧ x.val = cellR o) →
    ∃ r, Instr.findNow TypeDesc.string (.string s) es i = some r ∧
      ((r = none ∧ es.find? (isKey s) = none) ∨ ∃ j x, r = some (i + j, x.val) ∧ es[j]? = some x ∧ es.find? (isKey s) = some x ∧ x.key = .string s ∧ ∀ k y, k < j → es[k]? = some y → isKey s y = false)
  | [], i, _ => ⟨none, rfl, .inl ⟨rfl, rfl⟩⟩
  | y :: es, i, h => by
    obtain ⟨t, o, hk, hv⟩ := h y List.mem_cons_self
    by_cases hts : s = t
    · subst hts
      refine ⟨some (i, y.val), by simp [Instr.findNow, hk, Instr.sameNow, bbeq_self], .inr ⟨0, y, by simp, by simp, by simp [isKey, hk, bbeq_self], hk, fun k _ hk' => by omega⟩⟩
    · obtain ⟨r, hr, h2⟩ := findNow_str s es (i + 1) (fun x hx => h x (List.mem_cons_of_mem _ hx))
      have hf : isKey s y = false := by simp [isKey, hk, bbeq, Ne.symm hts]
      refine ⟨r, by simp [Instr.findNow, hk, Instr.sameNow, bbeq, hts, hr], ?_⟩
      rcases h2 with ⟨h2, h3⟩ | ⟨j, x, h2, h3, h4, h5, h6⟩
      · exact .inl ⟨h2, by rw [List.find?_cons, hf]; exact h3⟩
      · refine .inr ⟨j + 1, x, by rw [h2]; congr 2; omega, by simpa using h3, by rw [List.find?_cons, hf]; exact h4, h5, fun k z hk' hz => ?_⟩
        cases k with
        | zero => simp at hz; subst hz; exact hf
        | succ k => exact h6 k z (by omega) (by simpa using hz)

theorem GoodEs.at {es : List MapEntry} {vs : Vars} (h : GoodEs es vs) (s : ByteArray) : (match es.find? (isKey s) with | some x => x.val | none => cellR none) = cellR (getv vs s) := h.2 s

theorem run_checkKey (b : Bool) (n : Nat) (s : ByteArray) (w : World) : (Instr.checkKey b (n + 1) 9 (.string s)).run Tryz.prog w = .ok () w := by
  simp [Instr.checkKey, go_sem]
theorem run_getMap {w : World} {V : Nat} {es : Array MapEntry} {clk : Nat} (hh : w.heap[V]? = some (.map es clk)) : (getObj V).run Tryz.prog w = .ok (.map es clk) w := by
  simp [getObj, Sem.run, hh]
theorem run_setMap {w : World} {V : Nat} {es : Array MapEntry} {clk : Nat} (hh : w.heap[V]? = some (.map es clk)) (o : Obj) : (setObj V o).run Tryz.prog w = .ok () { w with heap := w.heap.setIfInBounds V o } := by
  simp [setObj, Sem.run, hh]
theorem zero_cell (w : World) : (zeroValue 73).run Tryz.prog w = .ok (cellR none) w := by kernel_rfl
theorem run_lookup {w : World} {V : Nat} {vs : Vars} (h : VarsAt w V vs) (s : ByteArray) :
    (Instr.lookup 95 (.map (some V)) (.string s) false).run Tryz.prog w = .ok (cellR (getv vs s)) w := by
  obtain ⟨es, clk, hh, hg⟩ := h
  have hat := hg.at s
  obtain ⟨r, hr, h2⟩ := findNow_str s es.toList 0 hg.1
  have hz := zero_cell w
  have hck : (Instr.checkKey es.isEmpty 10000 9 (.string s)).run Tryz.prog w = .ok () w := run_checkKey _ 9999 s w
  have hgo := run_getMap hh
  have hfk : (Instr.findKey 9 (.string s) es.toList).run Tryz.prog w = .ok r w := by
    simp [Instr.findKey, go_sem, hr]
  rcases h2 with ⟨rfl, h3⟩ | ⟨j, x, rfl, h3, h4, h5, _⟩
  · rw [h3] at hat
    simp only [] at hat
    simp [Instr.lookup, go_sem, hgo, hck, hfk, hz, hat]
  · rw [h4] at hat
    simp only [] at hat
    simp [Instr.lookup, go_sem, hgo, hck, hfk, hat]

theorem getv_setv (vs : Vars) (s t : ByteArray) (o : Option Int) : getv (setv vs s o) t = if t = s then o else getv vs t := by
  induction vs with
  | nil => simp [setv, getv, eq_comm]
  | cons x r ih =>
    obtain ⟨y, z⟩ := x
    by_cases h : y = s
    · subst h
      by_cases h2 : y = t
      · subst h2; simp [setv, getv]
      · simp [setv, getv, h2, Ne.symm h2]
    · by_cases h2 : y = t
      · subst h2; simp [setv, getv, h]
      · simp [setv, getv, h, h2, ih]

theorem find_modify {es : List MapEntry} {s t : ByteArray} {j : Nat} {x : MapEntry} (v : Value) (hj : es[j]? = some x) (hx : x.key = .string s)
    (hb : ∀ k y, k < j → es[k]? = some y → isKey s y = false) :
    (es.modify j (fun e => { e with key := .string s, val := v })).find? (isKey t) = if t = s then some { x with key := .string s, val := v } else es.find? (isKey t) := by
  induction es generalizing j with
  | nil => simp at hj
  | cons y es ih =>
    cases j with
    | zero =>
      have hy : y = x := by simpa using hj
      subst hy
      by_cases h : t = s
      · subst h; simp [isKey, bbeq]
      · have h' : ¬ s = t := Ne.symm h
        simp [isKey, bbeq, h, h', hx]
    | succ j =>
      have hy := hb 0 y (by omega) (by simp)
      have ih' := ih (j := j) (by simpa using hj) (fun k z hk hz => hb (k + 1) z (by omega) (by simpa using hz))
      simp only [List.modify_succ_cons, List.find?_cons]
      by_cases h : t = s
      · subst h; rw [hy]; simpa using ih'
      · rw [ih']; simp [h]

theorem run_update {w : World} {V : Nat} {vs : Vars} (h : VarsAt w V vs) (s : ByteArray) (o : Option Int) :
    ∃ es clk, (Instr.mapUpdate 95 (.map (some V)) (.string s) (cellR o)).run Tryz.prog w = .ok () { w with heap := w.heap.setIfInBounds V (.map es clk) } ∧ GoodEs es.toList (setv vs s o) := by
  obtain ⟨es, clk, hh, hg⟩ := h
  obtain ⟨r, hr, h2⟩ := findNow_str s es.toList 0 hg.1
  have hck : (Instr.checkKey false 10000 9 (.string s)).run Tryz.prog w = .ok () w := run_checkKey _ 9999 s w
  have hgo := run_getMap hh
  have hfk : (Instr.findKey 9 (.string s) es.toList).run Tryz.prog w = .ok r w := by
    simp [Instr.findKey, go_sem, hr]
  rcases h2 with ⟨rfl, h3⟩ | ⟨j, x, rfl, h3, h4, h5, h6⟩
  · refine ⟨es.push { key := .string s, val := cellR o, born := clk }, clk + 1, by simp [Instr.mapUpdate, go_sem, hgo, run_setMap hh, hck, hfk], ?_, fun t => ?_⟩
    · intro y hy
      rcases List.mem_append.1 (by simpa using hy : y ∈ es.toList ++ [_]) with hy | hy
      · exact hg.1 y hy
      · have hy' := List.mem_singleton.1 hy
        exact ⟨s, o, by rw [hy'], by rw [hy']⟩
    · have h7 := hg.at t
      rw [getv_setv]
      show (match (es.push _).toList.find? (isKey t) with | some x => x.val | none => cellR none) = _
      rw [Array.toList_push, List.find?_append]
      by_cases hts : t = s
      · subst hts
        rw [h3]; simp [isKey, bbeq]
      · have h' : ¬ s = t := Ne.symm hts
        rw [if_neg hts, ← h7]
        cases hf : es.toList.find? (isKey t) with
        | none => simp [isKey, bbeq, h']
        | some z => simp
  · have hst : (Instr.keyThatStays (.string s) (.string s)).run Tryz.prog w = .ok (.string s) w := by
      simp [Instr.keyThatStays, Instr.sameBits, go_sem, bbeq]
    refine ⟨es.modify j fun e => { e with key := .string s, val := cellR o }, clk, ?_, ?_, fun t => ?_⟩
    · have h3' : es[j]? = some x := by simpa using h3
      simp [Instr.mapUpdate, go_sem, hgo, run_setMap hh, hck, hfk, h3', h5, hst]
    · intro y hy
      rw [Array.toList_modify] at hy
      obtain ⟨k, hk⟩ := List.getElem?_of_mem hy
      rw [List.getElem?_modify] at hk
      obtain ⟨z, hz, he⟩ := Option.map_eq_some_iff.1 hk
      by_cases hjk : j = k
      · rw [if_pos hjk] at he; exact ⟨s, o, by rw [← he], by rw [← he]⟩
      · rw [if_neg hjk] at he; subst he; exact hg.1 z (List.mem_of_getElem? hz)
    · have h7 := hg.at t
      rw [getv_setv]
      show (match (es.modify j _).toList.find? (isKey t) with | some x => x.val | none => cellR none) = _
      rw [Array.toList_modify, find_modify _ h3 h5 h6]
      by_cases hts : t = s
      · simp [hts]
      · rw [if_neg hts, if_neg hts]; exact h7

/-! ### at the operation -/
theorem wpList_lookupR {w : World} {ops : Array Oper} {rest : List Oper} {o : Oper} {a : Act} {Q : Exit → Act → World → Prop}
    (hg : o.guard = none) (m x : Operand) (hop : o.op = Op.lookup 95 m x false) {V : Nat} {vs : Vars} {s : ByteArray} (h : VarsAt w V vs)
    (hm : a.eval m = .map (some V)) (hx : a.eval x = .string s)
    (hK : wpList Tryz.prog ops Q rest (a.put o.dst (cellR (getv vs s))) w) : wpList Tryz.prog ops Q (o :: rest) a w := by
  refine wpList_plain hg fun K' hK' => ?_
  have hrun := run_lookup h s
  unfold Oper.wp
  simp [execOp, hop, hm, hx, hrun, Result.andThen]
  exact hK' _ _ hK
theorem wpList_updateR {w : World} {ops : Array Oper} {rest : List Oper} {o : Oper} {a : Act} {Q : Exit → Act → World → Prop}
    (hg : o.guard = none) (m x y : Operand) (hop : o.op = Op.mapUpdate 95 m x y) {V : Nat} {vs : Vars} {s : ByteArray} {c : Option Int} (h : VarsAt w V vs)
    (hm : a.eval m = .map (some V)) (hx : a.eval x = .string s) (hy : a.eval y = cellR c)
    (hK : ∀ es clk, GoodEs es.toList (setv vs s c) → wpList Tryz.prog ops Q rest (a.put o.dst undef) { w with heap := w.heap.setIfInBounds V (.map es clk) }) : wpList Tryz.prog ops Q (o :: rest) a w := by
  refine wpList_plain hg fun K' hK' => ?_
  obtain ⟨es, clk, hrun, hg'⟩ := run_update h s c
  unfold Oper.wp
  simp [execOp, hop, hm, hx, hy, hrun, Result.andThen]
  exact hK' _ _ (hK es clk hg')
end Go.Proofs.YtoaajpppbjaomaaGreatDoor
/- The words: the operators of one and of two values, as the program has them. -/
namespace Go.Proofs.YtoaajpppbjaomaaGreatDoor
open Go.RowKit

/-- it returns just this, in the same world -/
def Ret (v : Value) (w : World) (e : Ending) (w' : World) : Prop := e = .returned v ∧ w' = w
/-- it returns just this; it may have made memory -/
def RetB (v : Value) (w : World) (e : Ending) (w' : World) : Prop := e = .returned v ∧ Below w.heap.size w w'
theorem Ret.b {v : Value} {w : World} {e : Ending} {w' : World} (h : Ret v w e w') : RetB v w e w' := ⟨h.1, by rw [h.2]; exact Below.refl _ _⟩
theorem tl_eq {s : ByteArray} {l : List UInt8} (h : s = ⟨l.toArray⟩) : (s.toList == l) = true := by
  subst h; rw [ByteArray.toList_eq]; simp
theorem tl_ne {s : ByteArray} {l : List UInt8} (h : ¬ s = ⟨l.toArray⟩) : (s.toList == l) = false := by
  rw [beq_eq_false_iff_ne]
  intro h2
  apply h
  rw [ByteArray.toList_eq] at h2
  cases s with | mk d => simp at h2; rw [← h2]
def unV (s : ByteArray) (a : Int) : Value := .tuple #[.int .i64 ((unop s a).getD 0), .int .i64 (if (unop s a).isSome then 0 else 10)]
def binV (s : ByteArray) (a b : Int) : Value := .tuple #[.int .i64 ((binop s a b).getD 0), .int .i64 (if (binop s a b).isSome then 0 else 10)]

theorem truth_any (b : Bool) (w : World) : Calls Tryz.prog 100 #[.bool b] w (Ret (.int .i64 (truth b)) w) := by
  cases b
  · go_enter Tryz.func100, Tryz.ntmps100
    go_wp2
    go_ret
    exact ⟨rfl, rfl⟩
  · go_enter Tryz.func100, Tryz.ntmps100
    go_wp2
    go_ret
    exact ⟨rfl, rfl⟩
theorem un_any (s : ByteArray) (a : Int) (w : World) :
    Calls Tryz.prog 83 #[.string s, .int .i64 a] w (Ret (unV s a) w) := by
  by_cases h1 : s = ⟨#[45]⟩
  · have h1' := tl_eq (l := [45]) h1
    have hv : unV s a = .tuple #[.int .i64 (wrap64 (-a)), .int .i64 0] := by subst h1; rfl
    clear h1
    go_enter Tryz.func83, Tryz.ntmps83
    go_wp2
    go_ret2
    exact ⟨by rw [hv]; rfl, rfl⟩
  · have h1' := tl_ne (l := [45]) h1
    by_cases h2 : s = ⟨#[110, 111, 116]⟩
    · have h2' := tl_eq (l := [110, 111, 116]) h2
      have hv : unV s a = .tuple #[.int .i64 (truth (a == 0)), .int .i64 0] := by subst h2; rfl
      clear h1 h2
      go_enter Tryz.func83, Tryz.ntmps83
      go_wp2_with fail
      refine (truth_any _ _).mono ?_
      rintro e w' ⟨rfl, rfl⟩
      go_wp2
      go_ret2
      exact ⟨by rw [hv]; rfl, rfl⟩
    · have h2' := tl_ne (l := [110, 111, 116]) h2
      have hv : unV s a = .tuple #[.int .i64 0, .int .i64 10] := by simp [unV, unop, h1, h2]
      clear h1 h2
      go_enter Tryz.func83, Tryz.ntmps83
      go_wp2
      go_ret2
      exact ⟨by rw [hv]; rfl, rfl⟩

theorem arith_any (f : Fn) (w : World) : Calls Tryz.prog 115 #[.func f #[] #[]] w (RetB (.agg #[.func f #[] #[], .int .i64 1, .int .i64 1]) w) := by
  go_enter Tryz.func115, Tryz.ntmps115
  go_wp2
  exact bodyPost_ret (v := .agg #[.func f #[] #[], .int .i64 1, .int .i64 1]) (by simp [results, Tryz.results115, go_sem]) rfl ⟨rfl, (Below.refl _ _).alloc (Nat.le_refl _) _⟩
def CmpPost (f : Fn) (t : Int) (w : World) (e : Ending) (w' : World) : Prop :=
  ∃ b, e = .returned (.agg #[.func (.func 141) #[] #[.pointer (some ⟨b, 0, none⟩)], .int .i64 t, .int .i64 2]) ∧ w.heap.size ≤ b ∧ b < w'.heap.size ∧ w'.cell? ⟨b, 0, none⟩ = some (.func f #[] #[]) ∧ Below w.heap.size w w'
theorem comp_any (f : Fn) (t : Int) (w : World) : Calls Tryz.prog 122 #[.int .i64 t, .func f #[] #[]] w (CmpPost f t w) := by
  go_enter Tryz.func122, Tryz.ntmps122
  go_wp2
  exact bodyPost_ret (v := .agg #[.func (.func 141) #[] #[.pointer (some ⟨w.heap.size, 0, none⟩)], .int .i64 t, .int .i64 2]) (by simp [results, Tryz.results122, go_sem]) rfl
    ⟨w.heap.size, rfl, Nat.le_refl _, by simp; omega, by simp [go_sem], ((Below.refl _ _).alloc (Nat.le_refl _) _).alloc (by simp) _⟩
theorem of1_any (a b : Int) (w : World) : Calls Tryz.prog 116 #[.int .i64 a, .int .i64 b] w (Ret (.int .i64 (wrap64 (a + b))) w) := by
  go_enter Tryz.func116, Tryz.ntmps116
  go_wp2
  go_ret
  exact ⟨rfl, rfl⟩
theorem of2_any (a b : Int) (w : World) : Calls Tryz.prog 117 #[.int .i64 a, .int .i64 b] w (Ret (.int .i64 (wrap64 (a - b))) w) := by
  go_enter Tryz.func117, Tryz.ntmps117
  go_wp2
  go_ret
  exact ⟨rfl, rfl⟩
theorem of3_any (a b : Int) (w : World) : Calls Tryz.prog 118 #[.int .i64 a, .int .i64 b] w (Ret (.int .i64 (wrap64 (a * b))) w) := by
  go_enter Tryz.func118, Tryz.ntmps118
  go_wp2
  go_ret
  exact ⟨rfl, rfl⟩
theorem of6_any (a b : Int) (w : World) : Calls Tryz.prog 123 #[.int .i64 a, .int .i64 b] w (Ret (.bool (decide (a < b))) w) := by
  go_enter Tryz.func123, Tryz.ntmps123
  go_wp2
  go_ret
  exact ⟨rfl, rfl⟩
theorem of7_any (a b : Int) (w : World) : Calls Tryz.prog 124 #[.int .i64 a, .int .i64 b] w (Ret (.bool (decide (a ≤ b))) w) := by
  go_enter Tryz.func124, Tryz.ntmps124
  go_wp2
  go_ret
  exact ⟨rfl, rfl⟩
theorem of8_any (a b : Int) (w : World) : Calls Tryz.prog 125 #[.int .i64 a, .int .i64 b] w (Ret (.bool (a == b)) w) := by
  go_enter Tryz.func125, Tryz.ntmps125
  go_wp2
  go_ret
  exact ⟨rfl, rfl⟩
theorem of9_any (a b : Int) (w : World) : Calls Tryz.prog 126 #[.int .i64 a, .int .i64 b] w (Ret (.bool (a != b)) w) := by
  go_enter Tryz.func126, Tryz.ntmps126
  go_wp2
  go_ret
  exact ⟨rfl, rfl⟩
def divB (a b : Int) : Bool := !decide (b = 0 ∨ (a = minI ∧ b = -1) ∨ (a = 0 ∧ b = -1))
theorem div_any (a b : Int) (w : World) (ha : I64 a) : Calls Tryz.prog 120 #[.int .i64 a, .int .i64 b] w (Ret (.bool (divB a b)) w) := by
  obtain ⟨ha1, ha2⟩ := ha
  by_cases h0 : b = 0
  · have hv : divB a b = false := by simp [divB, h0]
    subst h0
    go_enter Tryz.func120, Tryz.ntmps120
    go_wp2
    go_ret
    exact ⟨by rw [hv]; rfl, rfl⟩
  · have h0' : (b != 0) = true := by simp [h0]
    by_cases h1 : b = -1
    · by_cases h2 : a = wrap64 (-a)
      · have hv : divB a b = false := by
          have h3 : a = minI ∨ a = 0 := by unfold wrap64 at h2; unfold minI; omega
          unfold divB; rcases h3 with h3 | h3 <;> simp [h1, h3]
        have h2' : (a != wrap64 (-a)) = false := by rw [bne_eq_false_iff_eq]; exact h2
        have h1' : (b != -1) = false := by simp [h1]
        clear h0 h1 h2
        go_enter Tryz.func120, Tryz.ntmps120
        go_wp2
        go_ret
        exact ⟨by rw [hv]; rfl, rfl⟩
      · have hv : divB a b = true := by
          have h3 : ¬ a = minI ∧ ¬ a = 0 := by unfold wrap64 at h2; unfold minI; omega
          unfold divB; simp [h1, h3]
        have h2' : (a != wrap64 (-a)) = true := by rw [bne_iff_ne]; exact h2
        have h1' : (b != -1) = false := by simp [h1]
        clear h0 h1 h2
        go_enter Tryz.func120, Tryz.ntmps120
        go_wp2
        go_ret
        exact ⟨by rw [hv]; rfl, rfl⟩
    · have h1' : (b != -1) = true := by simp [h1]
      have hv : divB a b = true := by simp [divB, h0, h1]
      clear h0 h1
      go_enter Tryz.func120, Tryz.ntmps120
      go_wp2
      go_ret
      exact ⟨by rw [hv]; rfl, rfl⟩
def quoI (a b : Int) : Int := if b = 0 ∨ (a = minI ∧ b = -1) then 0 else a.tdiv b
def remI (a b : Int) : Int := if b = 0 ∨ (a = minI ∧ b = -1) then 0 else a.tmod b
theorem divB_false {a b : Int} (h : divB a b = false) : quoI a b = 0 ∧ remI a b = 0 := by
  simp only [divB, Bool.not_eq_false', decide_eq_true_eq] at h
  unfold quoI remI
  rcases h with h | h | ⟨h, h2⟩
  · simp [h]
  · simp [h]
  · subst h h2; simp
theorem divB_true {a b : Int} (h : divB a b = true) : quoI a b = a.tdiv b ∧ remI a b = a.tmod b := by
  simp only [divB, Bool.not_eq_true', decide_eq_false_iff_not] at h
  unfold quoI remI
  have h' : ¬ (b = 0 ∨ (a = minI ∧ b = -1)) := fun h2 => h (by
    rcases h2 with h2 | h2
    · exact .inl h2
    · exact .inr (.inl h2))
  rw [if_neg h', if_neg h']
  exact ⟨rfl, rfl⟩
theorem divB_ne {a b : Int} (h : divB a b = true) : b ≠ 0 ∧ ¬ (a = minI ∧ b = -1) := by
  simp only [divB, Bool.not_eq_true', decide_eq_false_iff_not] at h
  exact ⟨fun h2 => h (.inl h2), fun h2 => h (.inr (.inl h2))⟩
theorem tdiv_in {a b : Int} (ha : I64 a) (h : b ≠ 0 ∧ ¬ (a = minI ∧ b = -1)) : wrap64 (a.tdiv b) = a.tdiv b := by
  obtain ⟨h1, h2⟩ := h
  obtain ⟨ha1, ha2⟩ := ha
  have hn : (a.tdiv b).natAbs = a.natAbs / b.natAbs := Int.natAbs_tdiv a b
  have hb : 1 ≤ b.natAbs := by omega
  by_cases hb1 : b.natAbs = 1
  · have : b = 1 ∨ b = -1 := by omega
    rcases this with rfl | rfl
    · rw [Int.tdiv_one]; unfold wrap64; omega
    · have : a.tdiv (-1) = -a := by rw [Int.tdiv_neg, Int.tdiv_one]
      rw [this]
      unfold minI at h2
      unfold wrap64; omega
  · have h3 : a.natAbs / b.natAbs ≤ a.natAbs / 2 := Nat.div_le_div_left (by omega) (by omega)
    generalize a.tdiv b = q at *
    generalize a.natAbs / b.natAbs = r at *
    unfold wrap64; omega
theorem tmod_in {a b : Int} (ha : I64 a) : wrap64 (a.tmod b) = a.tmod b := by
  obtain ⟨ha1, ha2⟩ := ha
  have hn : (a.tmod b).natAbs = a.natAbs % b.natAbs := Int.natAbs_tmod a b
  have h3 : a.natAbs % b.natAbs ≤ a.natAbs := Nat.mod_le _ _
  have h4 : 0 ≤ a → 0 ≤ a.tmod b := fun h => Int.tmod_nonneg _ h
  have h5 : a < 0 → a.tmod b ≤ 0 := fun h => by
    have := Int.tmod_nonneg (a := -a) b (by omega)
    rw [Int.neg_tmod] at this; omega
  generalize a.tmod b = q at *
  generalize a.natAbs % b.natAbs = r at *
  unfold wrap64; omega
theorem of4_any (a b : Int) (w : World) (ha : I64 a) : Calls Tryz.prog 119 #[.int .i64 a, .int .i64 b] w (Ret (.int .i64 (quoI a b)) w) := by
  cases h : divB a b with
  | false =>
    have hq := (divB_false h).1
    have HQ := Lib.hid hq
    clear hq
    go_enter Tryz.func119, Tryz.ntmps119
    go_wp2_with fail
    refine (div_any _ _ _ ha).mono ?_
    rintro e w' ⟨rfl, rfl⟩
    go_wp2
    go_ret
    exact ⟨by rw [HQ.out]; rfl, rfl⟩
  | true =>
    go_enter Tryz.func119, Tryz.ntmps119
    go_wp2_with fail
    refine (div_any _ _ _ ha).mono ?_
    rintro e w' ⟨rfl, rfl⟩
    have hne := divB_ne h
    have H1 := Lib.hid (divB_true h).1
    have H2 := Lib.hid (tdiv_in ha hne)
    have hb := hne.1
    clear hne
    go_wp2
    go_ret
    exact ⟨by rw [H1.out]; exact congrArg (fun x => Ending.returned (.int .i64 x)) H2.out, rfl⟩
theorem of5_any (a b : Int) (w : World) (ha : I64 a) : Calls Tryz.prog 121 #[.int .i64 a, .int .i64 b] w (Ret (.int .i64 (remI a b)) w) := by
  cases h : divB a b with
  | false =>
    have hq := (divB_false h).2
    have HQ := Lib.hid hq
    clear hq
    go_enter Tryz.func121, Tryz.ntmps121
    go_wp2_with fail
    refine (div_any _ _ _ ha).mono ?_
    rintro e w' ⟨rfl, rfl⟩
    go_wp2
    go_ret
    exact ⟨by rw [HQ.out]; rfl, rfl⟩
  | true =>
    go_enter Tryz.func121, Tryz.ntmps121
    go_wp2_with fail
    refine (div_any _ _ _ ha).mono ?_
    rintro e w' ⟨rfl, rfl⟩
    have hne := divB_ne h
    have H1 := Lib.hid (divB_true h).2
    have hb := hne.1
    clear hne
    go_wp2
    go_ret
    exact ⟨by rw [H1.out]; rfl, rfl⟩
theorem wrap_i64_eq (n : Int) : IntKind.i64.wrap n = wrap64 n := by
  simp only [IntKind.wrap, IntKind.bits, IntKind.signed, wrap64, Bool.true_and]
  split <;> rename_i h <;> simp at h <;> omega
theorem bits_or_ne (a b : Int) (ha : I64 a) (hb : I64 b) : (bits BinOp.or IntKind.i64 a b != 0) = (a != 0 || b != 0) := by
  have h1 : ∀ n : Int, I64 n → (BitVec.ofInt 64 n = 0#64 ↔ n = 0) := by
    intro n hn
    obtain ⟨h2, h3⟩ := hn
    constructor
    · intro h
      have h4 := congrArg BitVec.toInt h
      rw [BitVec.toInt_ofInt] at h4
      simp [Int.bmod] at h4
      omega
    · rintro rfl; rfl
  have h5 : bits BinOp.or IntKind.i64 a b = wrap64 ((BitVec.ofInt 64 a ||| BitVec.ofInt 64 b).toNat : Int) := by
    show IntKind.i64.wrap _ = _
    exact wrap_i64_eq _
  have h6 := (BitVec.ofInt 64 a ||| BitVec.ofInt 64 b).isLt
  have h7 : (wrap64 ((BitVec.ofInt 64 a ||| BitVec.ofInt 64 b).toNat : Int) = 0) ↔ (a = 0 ∧ b = 0) := by
    rw [← h1 a ha, ← h1 b hb, ← BitVec.or_eq_zero_iff, ← BitVec.toNat_inj]
    generalize (BitVec.ofInt 64 a ||| BitVec.ofInt 64 b).toNat = m at *
    unfold wrap64
    simp
    omega
  rw [h5, Bool.eq_iff_iff]
  simp only [bne_iff_ne, ne_eq, Bool.or_eq_true, h7]
  omega
theorem of11_any (a b : Int) (w : World) (ha : I64 a) (hb : I64 b) : Calls Tryz.prog 128 #[.int .i64 a, .int .i64 b] w (Ret (.bool (a != 0 || b != 0)) w) := by
  go_enter Tryz.func128, Tryz.ntmps128
  go_wp2
  go_ret
  exact ⟨by rw [← bits_or_ne a b ha hb]; rfl, rfl⟩
theorem of10_any (a b : Int) (w : World) : Calls Tryz.prog 127 #[.int .i64 a, .int .i64 b] w (Ret (.bool (a != 0 && b != 0)) w) := by
  by_cases h : a = 0
  · subst h
    go_enter Tryz.func127, Tryz.ntmps127
    go_wp2
    go_ret
    exact ⟨rfl, rfl⟩
  · have h' : (a != 0) = true := by simp [h]
    clear h
    go_enter Tryz.func127, Tryz.ntmps127
    go_wp2
    go_ret
    exact ⟨by rw [h']; rfl, rfl⟩

def ptrB (b : Nat) : Value := .pointer (some ⟨b, 0, none⟩)
/-- a function of the text itself -/
def Callable (K : Nat) : Prop := ∀ args w, (callFunc K args).run Tryz.prog w = .ok (.enter K args) w
theorem callable_of {K : Nat} (h : ∀ args w, (callFunc K args).run Tryz.prog w = .ok (.enter K args) w) : Callable K := h
theorem comp1_any (K : Nat) (hcall : Callable K) (g : Int → Int → Bool) (b : Nat) (x y : Int) (w : World) (hc : w.cell? ⟨b, 0, none⟩ = some (.func (.func K) #[] #[]))
    (hK : ∀ w : World, Calls Tryz.prog K #[.int .i64 x, .int .i64 y] w (Ret (.bool (g x y)) w)) :
    Calls Tryz.prog 141 #[.int .i64 x, .int .i64 y, .pointer (some ⟨b, 0, none⟩)] w (Ret (.int .i64 (truth (g x y))) w) := by
  have HK := Lib.hid hK
  clear hK
  unfold Callable at hcall
  go_enter Tryz.func141, Tryz.ntmps141
  go_wp2_with fail
  refine (HK.out _).mono ?_
  rintro e w' ⟨rfl, rfl⟩
  go_wp2_with fail
  refine (truth_any _ _).mono ?_
  rintro e w' ⟨rfl, rfl⟩
  go_wp2_with fail
  go_ret
  exact ⟨rfl, rfl⟩
theorem bcell {W w1 : World} (hb : Below W.heap.size W w1) : (∀ b o, b < W.heap.size → w1.cell? ⟨b, o, none⟩ = W.cell? ⟨b, o, none⟩) ∧ (∀ b o, b < W.heap.size → w1.frozen? ⟨b, o, none⟩ = W.frozen? ⟨b, o, none⟩) :=
  ⟨fun b o h => hb.cell (p := ⟨b, o, none⟩) h, fun b o h => hb.frozen (p := ⟨b, o, none⟩) h⟩
theorem ofBelow {w w1 : World} {o : Obj} {u v x : Value} (h : Below (w.alloc o).heap.size (w.alloc o) w1) :
    Below w.heap.size w (((w1.setCell ⟨w.heap.size, 0, none⟩ u).setCell ⟨w.heap.size, 1, none⟩ v).setCell ⟨w.heap.size, 2, none⟩ x) :=
  (((((Below.refl _ _).alloc (Nat.le_refl _) _).trans (h.mono (by simp))).setCell (Nat.le_refl _) _).setCell (Nat.le_refl _) _).setCell (Nat.le_refl _) _
theorem ofCell {w1 w2 : World} {N q : Nat} {u v x y : Value} (hc : w1.cell? ⟨q, 0, none⟩ = some y) (hq : ¬ N = q) (hl : q < w1.heap.size)
    (hb : Below (((w1.setCell ⟨N, 0, none⟩ u).setCell ⟨N, 1, none⟩ v).setCell ⟨N, 2, none⟩ x).heap.size (((w1.setCell ⟨N, 0, none⟩ u).setCell ⟨N, 1, none⟩ v).setCell ⟨N, 2, none⟩ x) w2) :
    w2.cell? ⟨q, 0, none⟩ = some y := by
  rw [hb.cell (p := ⟨q, 0, none⟩) (by simpa [World.setCell] using hl)]
  rw [← hc]
  apply World.cell?_of_block
  have hn : q ≠ N := fun e => hq e.symm
  rw [heap_setCell_ne 2 x hn, heap_setCell_ne 1 v hn, heap_setCell_ne 0 u hn]
def OfPost (g : Int → Int → Int) (w : World) (e : Ending) (w' : World) : Prop :=
  ∃ fn caps t r, e = .returned (.agg #[.func (.func fn) #[] caps, .int .i64 t, .int .i64 r]) ∧ Below w.heap.size w w' ∧ Callable fn ∧
    ∀ a b, I64 a → I64 b → ∀ w1, Below w'.heap.size w' w1 → Calls Tryz.prog fn (#[.int .i64 a, .int .i64 b] ++ caps) w1 (Ret (.int .i64 (g a b)) w1)
def OfNone (w : World) (e : Ending) (w' : World) : Prop := e = .returned (.agg #[.nilFunc, .int .i64 0, .int .i64 0]) ∧ Below w.heap.size w w'
set_option maxHeartbeats 400000 in
theorem ofname1 (s : ByteArray)  (h1 : (s.toList == [43]) = true) (w : World) : Calls Tryz.prog 101 #[.string s] w (OfPost (fun a b => wrap64 (a + b)) w) := by
  go_enter Tryz.func101, Tryz.ntmps101
  go_wp2_with fail
  refine (arith_any _ _).mono ?_
  rintro e w1 ⟨rfl, hb⟩
  have HB := Lib.hid hb
  obtain ⟨hc, hf⟩ := bcell hb
  clear hb
  go_wp2_with fail
  exact bodyPost_ret (v := .agg #[.func (.func 116) #[] #[], .int .i64 1, .int .i64 1]) (by simp [results, Tryz.results101, go_sem, hc]) rfl
    ⟨_, _, _, _, rfl, ofBelow HB.out, fun _ _ => by simp [go_sem], fun a b ha _ w1 _ => of1_any _ _ _⟩
set_option maxHeartbeats 400000 in
theorem ofname2 (s : ByteArray) (h1 : (s.toList == [43]) = false) (h2 : (s.toList == [45]) = true) (w : World) : Calls Tryz.prog 101 #[.string s] w (OfPost (fun a b => wrap64 (a - b)) w) := by
  go_enter Tryz.func101, Tryz.ntmps101
  go_wp2_with fail
  refine (arith_any _ _).mono ?_
  rintro e w1 ⟨rfl, hb⟩
  have HB := Lib.hid hb
  obtain ⟨hc, hf⟩ := bcell hb
  clear hb
  go_wp2_with fail
  exact bodyPost_ret (v := .agg #[.func (.func 117) #[] #[], .int .i64 1, .int .i64 1]) (by simp [results, Tryz.results101, go_sem, hc]) rfl
    ⟨_, _, _, _, rfl, ofBelow HB.out, fun _ _ => by simp [go_sem], fun a b ha _ w1 _ => of2_any _ _ _⟩
set_option maxHeartbeats 400000 in
theorem ofname3 (s : ByteArray) (h1 : (s.toList == [43]) = false) (h2 : (s.toList == [45]) = false) (h3 : (s.toList == [42]) = true) (w : World) : Calls Tryz.prog 101 #[.string s] w (OfPost (fun a b => wrap64 (a * b)) w) := by
  go_enter Tryz.func101, Tryz.ntmps101
  go_wp2_with fail
  refine (arith_any _ _).mono ?_
  rintro e w1 ⟨rfl, hb⟩
  have HB := Lib.hid hb
  obtain ⟨hc, hf⟩ := bcell hb
  clear hb
  go_wp2_with fail
  exact bodyPost_ret (v := .agg #[.func (.func 118) #[] #[], .int .i64 1, .int .i64 1]) (by simp [results, Tryz.results101, go_sem, hc]) rfl
    ⟨_, _, _, _, rfl, ofBelow HB.out, fun _ _ => by simp [go_sem], fun a b ha _ w1 _ => of3_any _ _ _⟩
set_option maxHeartbeats 400000 in
theorem ofname4 (s : ByteArray) (h1 : (s.toList == [43]) = false) (h2 : (s.toList == [45]) = false) (h3 : (s.toList == [42]) = false) (h4 : (s.toList == [47]) = true) (w : World) : Calls Tryz.prog 101 #[.string s] w (OfPost (fun a b => quoI a b) w) := by
  go_enter Tryz.func101, Tryz.ntmps101
  go_wp2_with fail
  refine (arith_any _ _).mono ?_
  rintro e w1 ⟨rfl, hb⟩
  have HB := Lib.hid hb
  obtain ⟨hc, hf⟩ := bcell hb
  clear hb
  go_wp2_with fail
  exact bodyPost_ret (v := .agg #[.func (.func 119) #[] #[], .int .i64 1, .int .i64 1]) (by simp [results, Tryz.results101, go_sem, hc]) rfl
    ⟨_, _, _, _, rfl, ofBelow HB.out, fun _ _ => by simp [go_sem], fun a b ha _ w1 _ => of4_any _ _ _ ha⟩
set_option maxHeartbeats 400000 in
theorem ofname5 (s : ByteArray) (h1 : (s.toList == [43]) = false) (h2 : (s.toList == [45]) = false) (h3 : (s.toList == [42]) = false) (h4 : (s.toList == [47]) = false) (h5 : (s.toList == [37]) = true) (w : World) : Calls Tryz.prog 101 #[.string s] w (OfPost (fun a b => remI a b) w) := by
  go_enter Tryz.func101, Tryz.ntmps101
  go_wp2_with fail
  refine (arith_any _ _).mono ?_
  rintro e w1 ⟨rfl, hb⟩
  have HB := Lib.hid hb
  obtain ⟨hc, hf⟩ := bcell hb
  clear hb
  go_wp2_with fail
  exact bodyPost_ret (v := .agg #[.func (.func 121) #[] #[], .int .i64 1, .int .i64 1]) (by simp [results, Tryz.results101, go_sem, hc]) rfl
    ⟨_, _, _, _, rfl, ofBelow HB.out, fun _ _ => by simp [go_sem], fun a b ha _ w1 _ => of5_any _ _ _ ha⟩
set_option maxHeartbeats 400000 in
theorem ofname6 (s : ByteArray) (h1 : (s.toList == [43]) = false) (h2 : (s.toList == [45]) = false) (h3 : (s.toList == [42]) = false) (h4 : (s.toList == [47]) = false) (h5 : (s.toList == [37]) = false) (h6 : (s.toList == [60]) = true) (w : World) : Calls Tryz.prog 101 #[.string s] w (OfPost (fun a b => truth (decide (a < b))) w) := by
  go_enter Tryz.func101, Tryz.ntmps101
  go_wp2_with fail
  refine (comp_any _ _ _).mono ?_
  rintro e w1 ⟨q, rfl, hq, hq2, hq3, hb⟩
  have HB := Lib.hid hb
  obtain ⟨hc, hf⟩ := bcell hb
  have HC := Lib.hid hq3
  have hqn : ¬ w.heap.size = q := by simp at hq; omega
  have HQ := hq2
  clear hb hq hq3
  go_wp2_with fail
  exact bodyPost_ret (v := .agg #[.func (.func 141) #[] #[.pointer (some ⟨q, 0, none⟩)], .int .i64 1, .int .i64 2]) (by simp [results, Tryz.results101, go_sem, hc]) rfl
    ⟨_, _, _, _, rfl, ofBelow HB.out, fun _ _ => by simp [go_sem], fun a b ha hb w2 hb2 => comp1_any 123 (fun _ _ => by simp [go_sem]) (fun a b => decide (a < b)) q a b w2 (ofCell HC.out hqn HQ hb2) (fun w => of6_any _ _ _)⟩
set_option maxHeartbeats 400000 in
theorem ofname7 (s : ByteArray) (h1 : (s.toList == [43]) = false) (h2 : (s.toList == [45]) = false) (h3 : (s.toList == [42]) = false) (h4 : (s.toList == [47]) = false) (h5 : (s.toList == [37]) = false) (h6 : (s.toList == [60]) = false) (h7 : (s.toList == [60, 61]) = true) (w : World) : Calls Tryz.prog 101 #[.string s] w (OfPost (fun a b => truth (decide (a ≤ b))) w) := by
  go_enter Tryz.func101, Tryz.ntmps101
  go_wp2_with fail
  refine (comp_any _ _ _).mono ?_
  rintro e w1 ⟨q, rfl, hq, hq2, hq3, hb⟩
  have HB := Lib.hid hb
  obtain ⟨hc, hf⟩ := bcell hb
  have HC := Lib.hid hq3
  have hqn : ¬ w.heap.size = q := by simp at hq; omega
  have HQ := hq2
  clear hb hq hq3
  go_wp2_with fail
  exact bodyPost_ret (v := .agg #[.func (.func 141) #[] #[.pointer (some ⟨q, 0, none⟩)], .int .i64 1, .int .i64 2]) (by simp [results, Tryz.results101, go_sem, hc]) rfl
    ⟨_, _, _, _, rfl, ofBelow HB.out, fun _ _ => by simp [go_sem], fun a b ha hb w2 hb2 => comp1_any 124 (fun _ _ => by simp [go_sem]) (fun a b => decide (a ≤ b)) q a b w2 (ofCell HC.out hqn HQ hb2) (fun w => of7_any _ _ _)⟩
set_option maxHeartbeats 400000 in
theorem ofname8 (s : ByteArray) (h1 : (s.toList == [43]) = false) (h2 : (s.toList == [45]) = false) (h3 : (s.toList == [42]) = false) (h4 : (s.toList == [47]) = false) (h5 : (s.toList == [37]) = false) (h6 : (s.toList == [60]) = false) (h7 : (s.toList == [60, 61]) = false) (h8 : (s.toList == [61]) = true) (w : World) : Calls Tryz.prog 101 #[.string s] w (OfPost (fun a b => truth (a == b)) w) := by
  go_enter Tryz.func101, Tryz.ntmps101
  go_wp2_with fail
  refine (comp_any _ _ _).mono ?_
  rintro e w1 ⟨q, rfl, hq, hq2, hq3, hb⟩
  have HB := Lib.hid hb
  obtain ⟨hc, hf⟩ := bcell hb
  have HC := Lib.hid hq3
  have hqn : ¬ w.heap.size = q := by simp at hq; omega
  have HQ := hq2
  clear hb hq hq3
  go_wp2_with fail
  exact bodyPost_ret (v := .agg #[.func (.func 141) #[] #[.pointer (some ⟨q, 0, none⟩)], .int .i64 0, .int .i64 2]) (by simp [results, Tryz.results101, go_sem, hc]) rfl
    ⟨_, _, _, _, rfl, ofBelow HB.out, fun _ _ => by simp [go_sem], fun a b ha hb w2 hb2 => comp1_any 125 (fun _ _ => by simp [go_sem]) (fun a b => a == b) q a b w2 (ofCell HC.out hqn HQ hb2) (fun w => of8_any _ _ _)⟩
set_option maxHeartbeats 400000 in
theorem ofname9 (s : ByteArray) (h1 : (s.toList == [43]) = false) (h2 : (s.toList == [45]) = false) (h3 : (s.toList == [42]) = false) (h4 : (s.toList == [47]) = false) (h5 : (s.toList == [37]) = false) (h6 : (s.toList == [60]) = false) (h7 : (s.toList == [60, 61]) = false) (h8 : (s.toList == [61]) = false) (h9 : (s.toList == [60, 62]) = true) (w : World) : Calls Tryz.prog 101 #[.string s] w (OfPost (fun a b => truth (a != b)) w) := by
  go_enter Tryz.func101, Tryz.ntmps101
  go_wp2_with fail
  refine (comp_any _ _ _).mono ?_
  rintro e w1 ⟨q, rfl, hq, hq2, hq3, hb⟩
  have HB := Lib.hid hb
  obtain ⟨hc, hf⟩ := bcell hb
  have HC := Lib.hid hq3
  have hqn : ¬ w.heap.size = q := by simp at hq; omega
  have HQ := hq2
  clear hb hq hq3
  go_wp2_with fail
  exact bodyPost_ret (v := .agg #[.func (.func 141) #[] #[.pointer (some ⟨q, 0, none⟩)], .int .i64 0, .int .i64 2]) (by simp [results, Tryz.results101, go_sem, hc]) rfl
    ⟨_, _, _, _, rfl, ofBelow HB.out, fun _ _ => by simp [go_sem], fun a b ha hb w2 hb2 => comp1_any 126 (fun _ _ => by simp [go_sem]) (fun a b => a != b) q a b w2 (ofCell HC.out hqn HQ hb2) (fun w => of9_any _ _ _)⟩
set_option maxHeartbeats 400000 in
theorem ofname10 (s : ByteArray) (h1 : (s.toList == [43]) = false) (h2 : (s.toList == [45]) = false) (h3 : (s.toList == [42]) = false) (h4 : (s.toList == [47]) = false) (h5 : (s.toList == [37]) = false) (h6 : (s.toList == [60]) = false) (h7 : (s.toList == [60, 61]) = false) (h8 : (s.toList == [61]) = false) (h9 : (s.toList == [60, 62]) = false) (h10 : (s.toList == [97, 110, 100]) = true) (w : World) : Calls Tryz.prog 101 #[.string s] w (OfPost (fun a b => truth (a != 0 && b != 0)) w) := by
  go_enter Tryz.func101, Tryz.ntmps101
  go_wp2_with fail
  refine (comp_any _ _ _).mono ?_
  rintro e w1 ⟨q, rfl, hq, hq2, hq3, hb⟩
  have HB := Lib.hid hb
  obtain ⟨hc, hf⟩ := bcell hb
  have HC := Lib.hid hq3
  have hqn : ¬ w.heap.size = q := by simp at hq; omega
  have HQ := hq2
  clear hb hq hq3
  go_wp2_with fail
  exact bodyPost_ret (v := .agg #[.func (.func 141) #[] #[.pointer (some ⟨q, 0, none⟩)], .int .i64 2, .int .i64 2]) (by simp [results, Tryz.results101, go_sem, hc]) rfl
    ⟨_, _, _, _, rfl, ofBelow HB.out, fun _ _ => by simp [go_sem], fun a b ha hb w2 hb2 => comp1_any 127 (fun _ _ => by simp [go_sem]) (fun a b => a != 0 && b != 0) q a b w2 (ofCell HC.out hqn HQ hb2) (fun w => of10_any _ _ _)⟩
set_option maxHeartbeats 400000 in
theorem ofname11 (s : ByteArray) (h1 : (s.toList == [43]) = false) (h2 : (s.toList == [45]) = false) (h3 : (s.toList == [42]) = false) (h4 : (s.toList == [47]) = false) (h5 : (s.toList == [37]) = false) (h6 : (s.toList == [60]) = false) (h7 : (s.toList == [60, 61]) = false) (h8 : (s.toList == [61]) = false) (h9 : (s.toList == [60, 62]) = false) (h10 : (s.toList == [97, 110, 100]) = false) (h11 : (s.toList == [111, 114]) = true) (w : World) : Calls Tryz.prog 101 #[.string s] w (OfPost (fun a b => truth (a != 0 || b != 0)) w) := by
  go_enter Tryz.func101, Tryz.ntmps101
  go_wp2_with fail
  refine (comp_any _ _ _).mono ?_
  rintro e w1 ⟨q, rfl, hq, hq2, hq3, hb⟩
  have HB := Lib.hid hb
  obtain ⟨hc, hf⟩ := bcell hb
  have HC := Lib.hid hq3
  have hqn : ¬ w.heap.size = q := by simp at hq; omega
  have HQ := hq2
  clear hb hq hq3
  go_wp2_with fail
  exact bodyPost_ret (v := .agg #[.func (.func 141) #[] #[.pointer (some ⟨q, 0, none⟩)], .int .i64 2, .int .i64 2]) (by simp [results, Tryz.results101, go_sem, hc]) rfl
    ⟨_, _, _, _, rfl, ofBelow HB.out, fun _ _ => by simp [go_sem], fun a b ha hb w2 hb2 => comp1_any 128 (fun _ _ => by simp [go_sem]) (fun a b => a != 0 || b != 0) q a b w2 (ofCell HC.out hqn HQ hb2) (fun w => of11_any _ _ _ ha hb)⟩
set_option maxHeartbeats 400000 in
theorem ofnone (s : ByteArray) (h1 : (s.toList == [43]) = false) (h2 : (s.toList == [45]) = false) (h3 : (s.toList == [42]) = false) (h4 : (s.toList == [47]) = false) (h5 : (s.toList == [37]) = false) (h6 : (s.toList == [60]) = false) (h7 : (s.toList == [60, 61]) = false) (h8 : (s.toList == [61]) = false) (h9 : (s.toList == [60, 62]) = false) (h10 : (s.toList == [97, 110, 100]) = false) (h11 : (s.toList == [111, 114]) = false) (w : World) : Calls Tryz.prog 101 #[.string s] w (OfNone w) := by
  go_enter Tryz.func101, Tryz.ntmps101
  go_wp2_with fail
  exact bodyPost_ret (v := .agg #[.nilFunc, .int .i64 0, .int .i64 0]) (by simp [results, Tryz.results101, go_sem]) rfl
    ⟨rfl, (Below.refl _ _).alloc (Nat.le_refl _) _⟩
theorem eql_func (fn : Nat) (caps : Array Value) (w : World) : (binOp BinOp.eql 156 (.func (.func fn) #[] caps) .nilFunc).run Tryz.prog w = .ok (.bool false) w := by kernel_rfl
theorem eql_nil (w : World) : (binOp BinOp.eql 156 .nilFunc .nilFunc).run Tryz.prog w = .ok (.bool true) w := by kernel_rfl
set_option maxRecDepth 100000 in
set_option maxHeartbeats 400000 in
theorem bin_some (s : ByteArray) (a b : Int) (g : Int → Int → Int) (hg : ∀ w, Calls Tryz.prog 101 #[.string s] w (OfPost g w)) (ha : I64 a) (hb : I64 b) (w : World) :
    Calls Tryz.prog 84 #[.string s, .int .i64 a, .int .i64 b] w (RetB (.tuple #[.int .i64 (g a b), .int .i64 0]) w) := by
  have HG := Lib.hid hg
  clear hg
  have he := eql_func
  have he2 := eql_nil
  go_enter Tryz.func84, Tryz.ntmps84
  go_wp2_with fail
  refine (HG.out _).mono ?_
  rintro e w1 ⟨fn, caps, t, r, rfl, hb1, hcall, hdo⟩
  have HD := Lib.hid hdo
  have HB := Lib.hid hb1
  unfold Callable at hcall
  clear hb1 hdo
  go_wp2_with fail
  refine (HD.out _ _ ha hb _ ((Below.refl _ _).alloc (Nat.le_refl _) _)).mono ?_
  rintro e w2 ⟨rfl, rfl⟩
  go_wp2_with fail
  go_ret2
  exact ⟨rfl, HB.out.trans (((Below.refl _ _).alloc (Nat.le_refl _) _).mono HB.out.size)⟩
set_option maxRecDepth 100000 in
set_option maxHeartbeats 400000 in
theorem bin_none (s : ByteArray) (a b : Int) (hg : ∀ w, Calls Tryz.prog 101 #[.string s] w (OfNone w)) (w : World) :
    Calls Tryz.prog 84 #[.string s, .int .i64 a, .int .i64 b] w (RetB (.tuple #[.int .i64 0, .int .i64 10]) w) := by
  have HG := Lib.hid hg
  clear hg
  have he := eql_func
  have he2 := eql_nil
  go_enter Tryz.func84, Tryz.ntmps84
  go_wp2_with fail
  refine (HG.out _).mono ?_
  rintro e w1 ⟨rfl, hb1⟩
  have HB := Lib.hid hb1
  clear hb1
  go_wp2_with fail
  go_ret2
  exact ⟨rfl, HB.out.trans (((Below.refl _ _).alloc (Nat.le_refl _) _).mono HB.out.size)⟩
theorem bin_any (s : ByteArray) (a b : Int) (ha : I64 a) (hb : I64 b) (w : World) :
    Calls Tryz.prog 84 #[.string s, .int .i64 a, .int .i64 b] w (RetB (binV s a b) w) := by
  by_cases h1 : s = ⟨#[43]⟩
  · have hv : binV s a b = .tuple #[.int .i64 (wrap64 (a + b)), .int .i64 0] := by subst h1; rfl
    rw [hv]
    exact bin_some s a b (fun a b => wrap64 (a + b)) (ofname1 s  (tl_eq (l := [43]) h1)) ha hb w
  by_cases h2 : s = ⟨#[45]⟩
  · have hv : binV s a b = .tuple #[.int .i64 (wrap64 (a - b)), .int .i64 0] := by subst h2; rfl
    rw [hv]
    exact bin_some s a b (fun a b => wrap64 (a - b)) (ofname2 s (tl_ne (l := [43]) h1) (tl_eq (l := [45]) h2)) ha hb w
  by_cases h3 : s = ⟨#[42]⟩
  · have hv : binV s a b = .tuple #[.int .i64 (wrap64 (a * b)), .int .i64 0] := by subst h3; rfl
    rw [hv]
    exact bin_some s a b (fun a b => wrap64 (a * b)) (ofname3 s (tl_ne (l := [43]) h1) (tl_ne (l := [45]) h2) (tl_eq (l := [42]) h3)) ha hb w
  by_cases h4 : s = ⟨#[47]⟩
  · have hv : binV s a b = .tuple #[.int .i64 (quoI a b), .int .i64 0] := by subst h4; rfl
    rw [hv]
    exact bin_some s a b (fun a b => quoI a b) (ofname4 s (tl_ne (l := [43]) h1) (tl_ne (l := [45]) h2) (tl_ne (l := [42]) h3) (tl_eq (l := [47]) h4)) ha hb w
  by_cases h5 : s = ⟨#[37]⟩
  · have hv : binV s a b = .tuple #[.int .i64 (remI a b), .int .i64 0] := by subst h5; rfl
    rw [hv]
    exact bin_some s a b (fun a b => remI a b) (ofname5 s (tl_ne (l := [43]) h1) (tl_ne (l := [45]) h2) (tl_ne (l := [42]) h3) (tl_ne (l := [47]) h4) (tl_eq (l := [37]) h5)) ha hb w
  by_cases h6 : s = ⟨#[60]⟩
  · have hv : binV s a b = .tuple #[.int .i64 (truth (decide (a < b))), .int .i64 0] := by subst h6; rfl
    rw [hv]
    exact bin_some s a b (fun a b => truth (decide (a < b))) (ofname6 s (tl_ne (l := [43]) h1) (tl_ne (l := [45]) h2) (tl_ne (l := [42]) h3) (tl_ne (l := [47]) h4) (tl_ne (l := [37]) h5) (tl_eq (l := [60]) h6)) ha hb w
  by_cases h7 : s = ⟨#[60, 61]⟩
  · have hv : binV s a b = .tuple #[.int .i64 (truth (decide (a ≤ b))), .int .i64 0] := by subst h7; rfl
    rw [hv]
    exact bin_some s a b (fun a b => truth (decide (a ≤ b))) (ofname7 s (tl_ne (l := [43]) h1) (tl_ne (l := [45]) h2) (tl_ne (l := [42]) h3) (tl_ne (l := [47]) h4) (tl_ne (l := [37]) h5) (tl_ne (l := [60]) h6) (tl_eq (l := [60, 61]) h7)) ha hb w
  by_cases h8 : s = ⟨#[61]⟩
  · have hv : binV s a b = .tuple #[.int .i64 (truth (a == b)), .int .i64 0] := by subst h8; rfl
    rw [hv]
    exact bin_some s a b (fun a b => truth (a == b)) (ofname8 s (tl_ne (l := [43]) h1) (tl_ne (l := [45]) h2) (tl_ne (l := [42]) h3) (tl_ne (l := [47]) h4) (tl_ne (l := [37]) h5) (tl_ne (l := [60]) h6) (tl_ne (l := [60, 61]) h7) (tl_eq (l := [61]) h8)) ha hb w
  by_cases h9 : s = ⟨#[60, 62]⟩
  · have hv : binV s a b = .tuple #[.int .i64 (truth (a != b)), .int .i64 0] := by subst h9; rfl
    rw [hv]
    exact bin_some s a b (fun a b => truth (a != b)) (ofname9 s (tl_ne (l := [43]) h1) (tl_ne (l := [45]) h2) (tl_ne (l := [42]) h3) (tl_ne (l := [47]) h4) (tl_ne (l := [37]) h5) (tl_ne (l := [60]) h6) (tl_ne (l := [60, 61]) h7) (tl_ne (l := [61]) h8) (tl_eq (l := [60, 62]) h9)) ha hb w
  by_cases h10 : s = ⟨#[97, 110, 100]⟩
  · have hv : binV s a b = .tuple #[.int .i64 (truth (a != 0 && b != 0)), .int .i64 0] := by subst h10; rfl
    rw [hv]
    exact bin_some s a b (fun a b => truth (a != 0 && b != 0)) (ofname10 s (tl_ne (l := [43]) h1) (tl_ne (l := [45]) h2) (tl_ne (l := [42]) h3) (tl_ne (l := [47]) h4) (tl_ne (l := [37]) h5) (tl_ne (l := [60]) h6) (tl_ne (l := [60, 61]) h7) (tl_ne (l := [61]) h8) (tl_ne (l := [60, 62]) h9) (tl_eq (l := [97, 110, 100]) h10)) ha hb w
  by_cases h11 : s = ⟨#[111, 114]⟩
  · have hv : binV s a b = .tuple #[.int .i64 (truth (a != 0 || b != 0)), .int .i64 0] := by subst h11; rfl
    rw [hv]
    exact bin_some s a b (fun a b => truth (a != 0 || b != 0)) (ofname11 s (tl_ne (l := [43]) h1) (tl_ne (l := [45]) h2) (tl_ne (l := [42]) h3) (tl_ne (l := [47]) h4) (tl_ne (l := [37]) h5) (tl_ne (l := [60]) h6) (tl_ne (l := [60, 61]) h7) (tl_ne (l := [61]) h8) (tl_ne (l := [60, 62]) h9) (tl_ne (l := [97, 110, 100]) h10) (tl_eq (l := [111, 114]) h11)) ha hb w
  have hv : binV s a b = .tuple #[.int .i64 0, .int .i64 10] := by simp [binV, binop, h1, h2, h3, h4, h5, h6, h7, h8, h9, h10, h11]
  rw [hv]
  exact bin_none s a b (ofnone s (tl_ne (l := [43]) h1) (tl_ne (l := [45]) h2) (tl_ne (l := [42]) h3) (tl_ne (l := [47]) h4) (tl_ne (l := [37]) h5) (tl_ne (l := [60]) h6) (tl_ne (l := [60, 61]) h7) (tl_ne (l := [61]) h8) (tl_ne (l := [60, 62]) h9) (tl_ne (l := [97, 110, 100]) h10) (tl_ne (l := [111, 114]) h11)) w
end Go.Proofs.YtoaajpppbjaomaaGreatDoor
/- The runner's frame: its memory, its variables; must, at, further. -/
namespace Go.Proofs.YtoaajpppbjaomaaGreatDoor
open Go.RowKit

def memC (mem : Mem) : Array Value := (mem.flatMap fun o => [.int .i64 (o.getD 0), .bool o.isSome]).toArray
theorem memC_size (mem : Mem) : (memC mem).size = 2 * mem.length := by
  induction mem with
  | nil => rfl
  | cons a r ih =>
    have : (memC (a :: r)).size = (memC r).size + 2 := by simp [memC]
    rw [this, ih]; simp; omega
theorem memL_get (mem : Mem) : ∀ (i : Nat) (o : Option Int), mem[i]? = some o →
    (mem.flatMap fun o => [Value.int .i64 (o.getD 0), Value.bool o.isSome])[i * 2]? = some (.int .i64 (o.getD 0)) ∧
    (mem.flatMap fun o => [Value.int .i64 (o.getD 0), Value.bool o.isSome])[i * 2 + 1]? = some (.bool o.isSome) := by
  induction mem with
  | nil => intro i o h; simp at h
  | cons a r ih =>
    intro i o h
    cases i with
    | zero => simp at h; subst h; simp
    | succ i =>
      have h' := ih i o (by simpa using h)
      have e : (i + 1) * 2 = i * 2 + 1 + 1 := by omega
      rw [e]
      simpa using h'
theorem memC_get {mem : Mem} {i : Nat} {o : Option Int} (h : mem[i]? = some o) : (memC mem)[i * 2]? = some (.int .i64 (o.getD 0)) ∧ (memC mem)[i * 2 + 1]? = some (.bool o.isSome) := by
  have := memL_get mem i o h
  simpa [memC] using this
theorem memL_set (mem : Mem) : ∀ (i : Nat) (o : Option Int), i < mem.length →
    (((mem.flatMap fun o => [Value.int .i64 (o.getD 0), Value.bool o.isSome]).set (i * 2) (.int .i64 (o.getD 0))).set (i * 2 + 1) (.bool o.isSome)) =
      ((mem.set i o).flatMap fun o => [Value.int .i64 (o.getD 0), Value.bool o.isSome]) := by
  induction mem with
  | nil => intro i o h; simp at h
  | cons a r ih =>
    intro i o h
    cases i with
    | zero => simp
    | succ i =>
      have h' := ih i o (by simpa using h)
      have e : (i + 1) * 2 = i * 2 + 1 + 1 := by omega
      rw [e]
      simp
      simpa using h'
theorem memC_set {mem : Mem} {i : Nat} (o : Option Int) (h : i < mem.length) :
    ((memC mem).setIfInBounds (i * 2) (.int .i64 (o.getD 0))).setIfInBounds (i * 2 + 1) (.bool o.isSome) = memC (mem.set i o) := by
  apply Array.toList_inj.1
  simp only [Array.toList_setIfInBounds, memC]
  exact memL_set mem i o h

structure RnF (W w : World) (F R M V : Nat) (fv : Value) (base : Nat) (mem : Mem) (cnt : Int) (vs : Vars) : Prop where
  below : Below W.heap.size W w
  hF : w.heap[F]? = some (.cells #[.pointer (some ⟨R, 0, none⟩), .int .i64 base, .map (some V)] 97 (0, 0))
  hR : w.heap[R]? = some (.cells #[fv, .slice (some ⟨M, 0, none⟩) mem.length mem.length, .bool false, .int .i64 cnt] 62 (0, 0))
  hM : w.heap[M]? = some (.cells (memC mem) 73 (0, 0))
  hV : VarsAt w V vs
  geF : W.heap.size ≤ F
  geR : W.heap.size ≤ R
  geM : W.heap.size ≤ M
  geV : W.heap.size ≤ V
  FR : F ≠ R
  FM : F ≠ M
  RM : R ≠ M
  blen : base ≤ mem.length
  mlen : mem.length ≤ 1000
  memI : ∀ v, some v ∈ mem → I64 v
  vsI : ∀ s v, getv vs s = some v → I64 v
theorem lt_of_block {w : World} {b : Nat} {o : Obj} (h : w.heap[b]? = some o) : b < w.heap.size := by
  rcases Nat.lt_or_ge b w.heap.size with h1 | h1
  · exact h1
  · rw [Array.getElem?_eq_none h1] at h; cases h
theorem VarsAt.of_block {w w' : World} {V : Nat} {vs : Vars} (h : VarsAt w V vs) (hb : w'.heap[V]? = w.heap[V]?) : VarsAt w' V vs := by
  obtain ⟨es, clk, h1, h2⟩ := h
  exact ⟨es, clk, hb.trans h1, h2⟩
theorem VarsAt.lt {w : World} {V : Nat} {vs : Vars} (h : VarsAt w V vs) : V < w.heap.size := by
  obtain ⟨es, clk, h1, h2⟩ := h
  exact lt_of_block h1
/-- nothing of it has turned -/
theorem RnF.on {W w w' : World} {F R M V : Nat} {fv : Value} {base : Nat} {mem : Mem} {cnt : Int} {vs : Vars} (h : RnF W w F R M V fv base mem cnt vs) (hb : Below w.heap.size w w') : RnF W w' F R M V fv base mem cnt vs :=
  { h with
    below := h.below.trans (hb.mono h.below.size)
    hF := (hb.block F (lt_of_block h.hF)).trans h.hF
    hR := (hb.block R (lt_of_block h.hR)).trans h.hR
    hM := (hb.block M (lt_of_block h.hM)).trans h.hM
    hV := h.hV.of_block (hb.block V h.hV.lt) }

section
variable {W w : World} {F R M V : Nat} {fv : Value} {base : Nat} {mem : Mem} {cnt : Int} {vs : Vars} (h : RnF W w F R M V fv base mem cnt vs)
include h
theorem RnF.c0 : w.cell? ⟨F, 0, none⟩ = some (.pointer (some ⟨R, 0, none⟩)) := cellB' h.hF 0 rfl
theorem RnF.c1 : w.cell? ⟨F, 1, none⟩ = some (.int .i64 base) := cellB' h.hF 1 rfl
theorem RnF.c2 : w.cell? ⟨F, 2, none⟩ = some (.map (some V)) := cellB' h.hF 2 rfl
theorem RnF.r0 : w.cell? ⟨R, 0, none⟩ = some fv := cellB' h.hR 0 rfl
theorem RnF.r1 : w.cell? ⟨R, 1, none⟩ = some (.slice (some ⟨M, 0, none⟩) mem.length mem.length) := cellB' h.hR 1 rfl
theorem RnF.r2 : w.cell? ⟨R, 2, none⟩ = some (.bool false) := cellB' h.hR 2 rfl
theorem RnF.r3 : w.cell? ⟨R, 3, none⟩ = some (.int .i64 cnt) := cellB' h.hR 3 rfl
theorem RnF.m {i : Nat} {o : Option Int} (hi : mem[i]? = some o) : w.cell? ⟨M, i * 2, none⟩ = some (.int .i64 (o.getD 0)) ∧ w.cell? ⟨M, i * 2 + 1, none⟩ = some (.bool o.isSome) :=
  ⟨cellB' h.hM _ (memC_get hi).1, cellB' h.hM _ (memC_get hi).2⟩
end
def trapE : PanicEntry := { v := .iface 67 (.agg #[]), recovered := false }
def Traps (w : World) (e : Ending) (w' : World) : Prop := e = .panicked [trapE] ∧ Below w.heap.size w w'
theorem must_true (w : World) : Calls Tryz.prog 41 #[.bool true] w (Ret (.tuple #[]) w) := by
  go_enter Tryz.func41, Tryz.ntmps41
  go_wp2
  go_end0
  exact ⟨rfl, rfl⟩
theorem must_false (w : World) : Calls Tryz.prog 41 #[.bool false] w (Traps w) := by
  go_enter Tryz.func41, Tryz.ntmps41
  go_wp2
  exact ⟨rfl, rfl, Below.refl _ _⟩
theorem Below.drewN' {B : Nat} {a w : World} (h : Below B a w) (n : Nat) : Below B a (w.drewN n) := ⟨h.os, h.tape, h.output, h.size, h.block⟩
/-- it returns just this; it may have drawn -/
def RetD (v : Value) (w : World) (e : Ending) (w' : World) : Prop := e = .returned v ∧ ∃ n, w' = w.drewN n
theorem RetD.b {v : Value} {w : World} {e : Ending} {w' : World} (h : RetD v w e w') : RetB v w e w' := by
  obtain ⟨h1, n, rfl⟩ := h
  exact ⟨h1, rfl, rfl, rfl, Nat.le_refl _, fun _ _ => rfl⟩
theorem drewN_two (w : World) (a b : Nat) : (w.drewN a).drewN b = w.drewN (a + b) := by simp [World.drewN, Nat.add_assoc]
set_option maxHeartbeats 400000 in
theorem at_in {W w : World} {F R M V : Nat} {fv : Value} {base : Nat} {mem : Mem} {cnt : Int} {vs : Vars} (h : RnF W w F R M V fv base mem cnt vs)
    (n : Int) (h0 : 0 ≤ n) (h1 : n < (mem.length : Int) - base) :
    Calls Tryz.prog 61 #[.pointer (some ⟨F, 0, none⟩), .int .i64 n] w (RetD (.pointer (some ⟨M, (base + n.toNat) * 2, none⟩)) w) := by
  have c0 := h.c0
  have c1 := h.c1
  have c2 := h.r1
  have hbl := h.blen
  have hml := h.mlen
  obtain ⟨k, rfl⟩ := Int.eq_ofNat_of_zero_le h0
  have d0 : decide ((0 : Int) ≤ k) = true := by simp
  have d1 : decide ((k : Int) < (mem.length : Int) - base) = true := by simpa using h1
  have d2 : (base : Int) + k < (mem.length : Int) := by omega
  have d3 : (0 : Int) ≤ (base : Int) + k := by omega
  clear h
  go_enter Tryz.func61, Tryz.ntmps61
  go_wp2
  go_quiet ((go_at_call 41; exact Calls.quiet_of_same (must_true _)))
  go_wp2
  go_quiet (fail)
  go_wp2
  go_ret
  exact ⟨rfl, _, drewN_two _ _ _⟩
set_option maxRecDepth 100000 in
set_option maxHeartbeats 400000 in
theorem at_neg {W w : World} {F R M V : Nat} {fv : Value} {base : Nat} {mem : Mem} {cnt : Int} {vs : Vars} (_h : RnF W w F R M V fv base mem cnt vs)
    (n : Int) (h0 : n < 0) : Calls Tryz.prog 61 #[.pointer (some ⟨F, 0, none⟩), .int .i64 n] w (Traps w) := by
  have d0 : decide (0 ≤ n) = false := by simpa using h0
  clear _h h0
  go_enter Tryz.func61, Tryz.ntmps61
  go_wp2
  refine region_qtail 19 (by kernel_rfl) (by kernel_rfl) ?_
  simp only [List.take_succ_cons, List.take_zero, List.drop_succ_cons, List.drop_zero]
  repeat (go_big_quiet_step (fail))
  refine wpQuiet_nil ?_
  intro k
  go_wp2_with fail
  refine (must_false _).mono ?_
  rintro e w' ⟨rfl, hb⟩
  exact ⟨rfl, rfl, (Below.drewN' (Below.refl _ _) k).trans hb⟩
set_option maxRecDepth 100000 in
set_option maxHeartbeats 400000 in
theorem at_out {W w : World} {F R M V : Nat} {fv : Value} {base : Nat} {mem : Mem} {cnt : Int} {vs : Vars} (h : RnF W w F R M V fv base mem cnt vs)
    (n : Int) (h1 : ¬ (0 ≤ n ∧ n < (mem.length : Int) - base)) :
    Calls Tryz.prog 61 #[.pointer (some ⟨F, 0, none⟩), .int .i64 n] w (Traps w) := by
  have c0 := h.c0
  have c1 := h.c1
  have c2 := h.r1
  have hbl := h.blen
  have hml := h.mlen
  by_cases h0 : 0 ≤ n
  · have d0 : decide (0 ≤ n) = true := by simpa using h0
    have d1 : decide (n < (mem.length : Int) - base) = false := by simp; omega
    have d2 : IntKind.i64.wrap ((mem.length : Int) - base) = (mem.length : Int) - base := by rw [wrap_i64_eq]; unfold wrap64; omega
    clear h h1
    go_enter Tryz.func61, Tryz.ntmps61
    go_wp2
    refine region_tail 19 (by kernel_rfl) (by kernel_rfl) ?_
    simp only [List.take_succ_cons, List.take_zero, List.drop_succ_cons, List.drop_zero]
    iterate 19 (refine bx_step (fun K hK => ?_); go_simp; refine hK _ ?_; clear hK K)
    refine bx_nil ?_
    go_wp2_with fail
    refine (must_false _).mono ?_
    rintro e w' ⟨rfl, hb⟩
    exact ⟨rfl, rfl, ((Below.refl _ _).drew).trans hb⟩
  · exact at_neg h n (by omega)
set_option maxHeartbeats 400000 in
theorem further_any {W w : World} {F R M V : Nat} {fv : Value} {base : Nat} {mem : Mem} {cnt : Int} {vs : Vars} (h : RnF W w F R M V fv base mem cnt vs)
    (n : Int) : Calls Tryz.prog 85 #[.pointer (some ⟨F, 0, none⟩), .int .i64 n] w (RetD (.int .i64 (further mem.length base n)) w) := by
  have c0 := h.c0
  have c1 := h.c1
  have c2 := h.r1
  have hbl := h.blen
  have hml := h.mlen
  by_cases h0 : n < 0
  · have d0 : decide (n < 0) = true := by simpa using h0
    have e : (further mem.length base n : Int) = mem.length := by unfold further; rw [if_pos (.inl h0)]
    have HE := Lib.hid e
    clear h h0 e
    go_enter Tryz.func85, Tryz.ntmps85
    go_wp2
    go_quiet (fail)
    go_wp2
    go_ret
    exact ⟨by rw [HE.out]; rfl, _, rfl⟩
  · have d0 : decide (n < 0) = false := by simpa using h0
    by_cases h1 : n > (mem.length : Int) - base
    · have d1 : decide ((mem.length : Int) - base < n) = true := by simpa using h1
      have e : (further mem.length base n : Int) = mem.length := by unfold further; rw [if_pos (.inr h1)]
      have HE := Lib.hid e
      clear h h0 e
      go_enter Tryz.func85, Tryz.ntmps85
      go_wp2
      go_quiet (fail)
      go_wp2
      go_ret
      exact ⟨by rw [HE.out]; rfl, _, rfl⟩
    · have d1 : decide ((mem.length : Int) - base < n) = false := by simp; omega
      have e : (further mem.length base n : Int) = base + n := by
        unfold further; rw [if_neg (by omega)]; omega
      have HE := Lib.hid e
      clear h e
      go_enter Tryz.func85, Tryz.ntmps85
      go_wp2
      go_quiet (fail)
      go_wp2
      go_ret
      exact ⟨by rw [HE.out]; rfl, _, rfl⟩
end Go.Proofs.YtoaajpppbjaomaaGreatDoor
