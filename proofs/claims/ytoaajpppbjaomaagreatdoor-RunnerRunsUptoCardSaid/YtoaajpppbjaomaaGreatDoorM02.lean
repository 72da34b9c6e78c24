/- Texts merged by program: parts Re, Rf, Rb, Rc, Rd, Rg, Rh. -/
import Derived.Test.YtoaajpppbjaomaaGreatDoorM01
import Derived.Laws.CopyRow
import Derived.Deep.LoopGhost
/- The runner begins anew: clear, the flags, the parts. -/
namespace Go.Proofs.YtoaajpppbjaomaaGreatDoor
open Go.RowKit

/-- the memory's block alone has turned -/
structure MemSt (W w : World) (R M : Nat) (fv : Value) (mem : Mem) (tr : Bool) (cnt : Int) : Prop where
  below : Below W.heap.size W w
  hR : w.heap[R]? = some (.cells #[fv, .slice (some ⟨M, 0, none⟩) mem.length mem.length, .bool tr, .int .i64 cnt] 62 (0, 0))
  hM : w.heap[M]? = some (.cells (memC mem) 73 (0, 0))
  geR : W.heap.size ≤ R
  geM : W.heap.size ≤ M
  RM : R ≠ M
  mlen : mem.length ≤ 1000
theorem MemSt.on {W w w' : World} {R M : Nat} {fv : Value} {mem mem' : Mem} {tr : Bool} {cnt : Int} (h : MemSt W w R M fv mem tr cnt) (hk : Keep [M] w w')
    (hM : w'.heap[M]? = some (.cells (memC mem') 73 (0, 0))) (hl : mem'.length = mem.length) : MemSt W w' R M fv mem' tr cnt where
  below := hk.below h.below h.below.size (fun x hx => by have : x = M := by simpa using hx
                                                         rw [this]; exact h.geM)
  hR := by
    rw [hk.block R (lt_of_block h.hR) (by simp [h.RM]), hl]; exact h.hR
  hM := hM
  geR := h.geR
  geM := h.geM
  RM := h.RM
  mlen := by rw [hl]; exact h.mlen
theorem clearM_length (mem : Mem) (base n : Nat) (h : base + n ≤ mem.length) : (clearM mem base n).length = mem.length := by
  simp [clearM]; omega
theorem memL_take (mem : Mem) (k : Nat) : (mem.flatMap fun o => [Value.int .i64 (o.getD 0), Value.bool o.isSome]).take (k * 2) = (mem.take k).flatMap fun o => [Value.int .i64 (o.getD 0), Value.bool o.isSome] := by
  induction mem generalizing k with
  | nil => simp
  | cons a r ih =>
    cases k with
    | zero => simp
    | succ k =>
      have e : (k + 1) * 2 = k * 2 + 1 + 1 := by omega
      rw [e]; simp [ih]
theorem memL_drop (mem : Mem) (k : Nat) : (mem.flatMap fun o => [Value.int .i64 (o.getD 0), Value.bool o.isSome]).drop (k * 2) = (mem.drop k).flatMap fun o => [Value.int .i64 (o.getD 0), Value.bool o.isSome] := by
  induction mem generalizing k with
  | nil => simp
  | cons a r ih =>
    cases k with
    | zero => simp
    | succ k =>
      have e : (k + 1) * 2 = k * 2 + 1 + 1 := by omega
      rw [e]; simp [ih]
theorem zeroC (n : Nat) : (Builtin.zeroCells #[.int .i64 0, .bool false] n).toList = (List.replicate n (none : Option Int)).flatMap fun o => [Value.int .i64 (o.getD 0), Value.bool o.isSome] := by
  apply List.ext_getElem?
  intro i
  simp only [Builtin.zeroCells, Array.toList_map, Array.toList_range, List.getElem?_map]
  have hl : ((List.replicate n (none : Option Int)).flatMap fun o => [Value.int .i64 (o.getD 0), Value.bool o.isSome]).length = n * 2 := by
    induction n with
    | zero => rfl
    | succ n ih => rw [List.replicate_succ, List.flatMap_cons, List.length_append, ih]; simp; omega
  by_cases h : i < n * 2
  · rw [List.getElem?_range (by simpa using h)]
    have hj : i / 2 < n := by omega
    have hg := memL_get (List.replicate n none) (i / 2) none (by simp [hj])
    rcases Nat.mod_two_eq_zero_or_one i with h2 | h2
    · have e : i = i / 2 * 2 := by omega
      conv => rhs; rw [e]
      rw [hg.1]; simp [h2]
    · have e : i = i / 2 * 2 + 1 := by omega
      conv => rhs; rw [e]
      rw [hg.2]; simp [h2]
  · rw [List.getElem?_eq_none (by simp; omega), List.getElem?_eq_none (by rw [hl]; omega)]; rfl
theorem wpList_clearR {w : World} {ops : Array Oper} {rest : List Oper} {o : Oper} {a : Act} {Q : Exit → Act → World → Prop}
    (hg : o.guard = none) (x : Operand) (hop : o.op = Op.call { callee := .builtin .clear, args := #[x], argTypes := #[60] }) {M base n c : Nat} {mem : Mem} (A : Option Addr)
    (hM : w.heap[M]? = some (.cells (memC mem) 73 (0, 0))) (hx : a.eval x = .slice A n c) (hA : 0 < n → A = some ⟨M, base * 2, none⟩) (hl : base + n ≤ mem.length)
    (hK : ∀ w', w'.heap[M]? = some (.cells (memC (clearM mem base n)) 73 (0, 0)) → Keep [M] w w' → wpList Tryz.prog ops Q rest (a.put o.dst (.tuple #[])) w') : wpList Tryz.prog ops Q (o :: rest) a w := by
  refine wpList_plain hg fun K' hK' => ?_
  rcases Nat.eq_zero_or_pos n with h0 | h0
  · subst h0
    have hcl : clearM mem base 0 = mem := by simp [clearM]
    have hK0 := hK w (by rw [hcl]; exact hM) (Keep.refl _ _)
    unfold Oper.wp
    have hrun : (Builtin.clear_ #[60] o.type #[.slice A 0 c]).run Tryz.prog w = .ok (.tuple #[]) w := by
      cases A <;> simp [Builtin.clear_, go_sem]
    simp [execOp, hop, resolve, invoke, builtin, hx, hrun, Result.andThen]
    exact hK' _ _ hK0
  · have hAe := hA h0
    subst hAe
    have hz : (zeroValue 73).run Tryz.prog w = .ok (.agg #[.int .i64 0, .bool false]) w := by kernel_rfl
    have hst := run_storeCells_at (P := Tryz.prog) M (base * 2) 73 (Builtin.zeroCells #[.int .i64 0, .bool false] n).toList 0 (memC mem) w hM
      (by rw [memC_size]; simp [Builtin.zeroCells]; omega) (fun v hv => by
        rw [zeroC] at hv
        obtain ⟨o, _, ho⟩ := List.mem_flatMap.1 hv
        simp at ho
        rcases ho with rfl | rfl <;> rfl)
    have hrow : ((memC mem).toList.take (base * 2 + 0) ++ (Builtin.zeroCells #[.int .i64 0, .bool false] n).toList ++ (memC mem).toList.drop (base * 2 + 0 + (Builtin.zeroCells #[.int .i64 0, .bool false] n).toList.length)).toArray = memC (clearM mem base n) := by
      have hlen : (Builtin.zeroCells #[.int .i64 0, .bool false] n).toList.length = n * 2 := by simp [Builtin.zeroCells]
      rw [hlen, zeroC]
      have e : base * 2 + 0 + n * 2 = (base + n) * 2 := by omega
      rw [e, Nat.add_zero]
      simp only [memC]
      rw [memL_take, memL_drop]
      simp [clearM, List.flatMap_append]
    rw [hrow] at hst
    have hK0 := hK (w.setRow M (memC (clearM mem base n))) (setRow_heap w M (memC mem) _ 73 (0, 0) hM) ⟨rfl, rfl, rfl, by simp [World.setRow], fun k hk hne => by
      have : M ≠ k := fun e => hne (by simp [e])
      simp [World.setRow, Array.getElem?_modify, this]⟩
    unfold Oper.wp
    have hrun : (Builtin.clear_ #[60] o.type #[.slice (some ⟨M, base * 2, none⟩) n c]).run Tryz.prog w = .ok (.tuple #[]) (w.setRow M (memC (clearM mem base n))) := by
      obtain ⟨m, rfl⟩ : ∃ m, n = m + 1 := ⟨n - 1, by omega⟩
      simp [Builtin.clear_, go_sem, hz, hst, Value.cells]
    simp [execOp, hop, resolve, invoke, builtin, hx, hrun, Result.andThen]
    exact hK' _ _ hK0

/-- what rightF says, as it is used -/
structure RightP (funs : List FN) : Prop where
  cells : ∀ k, k < funs.length → 0 ≤ (funs.getD k default).cells ∧ (funs.getD k default).cells ≤ 1000
  flags : ∀ k, k < funs.length → ∀ x, x ∈ (funs.getD k default).flags → 0 ≤ x ∧ x < (funs.getD k default).cells
  parts : ∀ k, k < funs.length → ∀ p, p ∈ (funs.getD k default).parts → 0 ≤ p.fn ∧ p.fn < k ∧ 0 ≤ p.at_ ∧ p.at_ ≤ (funs.getD k default).cells ∧ (funs.getD p.fn.toNat default).cells ≤ (funs.getD k default).cells - p.at_
  calls : ∀ k, k < funs.length → callsL (funs.getD k default).body k = true
theorem rightP_of {funs : List FN} (h : rightF funs = true) : RightP funs := by
  simp only [rightF, Bool.and_eq_true, List.all_eq_true, List.mem_range] at h
  have h1 := h.1
  refine ⟨fun k hk => ?_, fun k hk x hx => ?_, fun k hk p hp => ?_, fun k hk => ?_⟩
  all_goals
    have h2 := h1 k hk
    simp only [rightAt, Bool.and_eq_true, decide_eq_true_eq, List.all_eq_true] at h2
  · exact ⟨h2.1.1.1.1, h2.1.1.1.2⟩
  · have := h2.1.2 x hx
    simpa [flagOk] using this
  · have := h2.2 p hp
    simp only [partOk, Bool.and_eq_true, decide_eq_true_eq] at this
    exact ⟨this.1.1.1.1, this.1.1.1.2, this.1.1.2, this.1.2, this.2⟩
  · exact h2.1.1.2
theorem RepV.sl {α : Type} {R : α → List Value → Prop} {sz : Nat} {W : World} {v : Value} {xs : List α} (h : RepV R sz W v xs) : ∃ A c, v = .slice A xs.length c ∧ xs.length ≤ c ∧ c ≤ 9223372036854775807 ∧ xs.length ≤ 1048576 := by
  obtain ⟨h1, A, c, h2, h3, h4, _⟩ := h
  exact ⟨A, c, h2, h3, h4, h1⟩
/-- a function, cell by cell -/
theorem fn_cells {W w : World} {nf : Nat} {fv : Value} {funs : List FN} (h : RepV (RepF W nf) 6 W fv funs) (hb : Below W.heap.size W w) {k : Nat} (hk : k < funs.length) {f : FN} (hf : funs.getD k default = f) :
    ∃ b o c Ap cp Ar cr Af cf Aq cq Ab cb, fv = .slice (some ⟨b, o, none⟩) funs.length c ∧ funs.length ≤ 1048576 ∧ b < W.heap.size ∧
      w.cell? ⟨b, o + k * 6, none⟩ = some (.slice Ap f.params.length cp) ∧ w.cell? ⟨b, o + k * 6 + 1, none⟩ = some (.slice Ar f.results.length cr) ∧ w.cell? ⟨b, o + k * 6 + 2, none⟩ = some (.int .i64 f.cells) ∧
      w.cell? ⟨b, o + k * 6 + 3, none⟩ = some (.slice Af f.flags.length cf) ∧ w.cell? ⟨b, o + k * 6 + 4, none⟩ = some (.slice Aq f.parts.length cq) ∧ w.cell? ⟨b, o + k * 6 + 5, none⟩ = some (.slice Ab f.body.length cb) ∧
      RepV RStr 1 W (.slice Ap f.params.length cp) f.params ∧ RepV RStr 1 W (.slice Ar f.results.length cr) f.results ∧ RepV RInt 1 W (.slice Af f.flags.length cf) f.flags ∧ RepV RPart 2 W (.slice Aq f.parts.length cq) f.parts ∧ RepV (RepS W nf) 12 W (.slice Ab f.body.length cb) f.body := by
  obtain ⟨A, c, rfl, h1, h2, h3, h4⟩ := h.get hb
  obtain ⟨b, o, cs, rfl, hlt, hlen, hR, hAt⟩ := h4 k f (by rw [← hf, List.getD_eq_getElem?_getD, List.getElem?_eq_getElem hk]; rfl)
  obtain ⟨vp, vr, vf, vq, vb, rfl, _, r1, r2, r3, r4, r5⟩ := hR
  obtain ⟨Ap, cp, rfl, _⟩ := r1.sl
  obtain ⟨Ar, cr, rfl, _⟩ := r2.sl
  obtain ⟨Af, cf, rfl, _⟩ := r3.sl
  obtain ⟨Aq, cq, rfl, _⟩ := r4.sl
  obtain ⟨Ab, cb, rfl, _⟩ := r5.sl
  exact ⟨b, o, c, Ap, cp, Ar, cr, Af, cf, Aq, cq, Ab, cb, rfl, h3, hlt, hAt 0 _ rfl, hAt 1 _ rfl, hAt 2 _ rfl, hAt 3 _ rfl, hAt 4 _ rfl, hAt 5 _ rfl, r1, r2, r3, r4, r5⟩
def AnewP (M : Nat) (mem : Mem) (w : World) (e : Ending) (w' : World) : Prop := e = .returned (.tuple #[]) ∧ w'.heap[M]? = some (.cells (memC mem) 73 (0, 0)) ∧ Keep [M] w w'
theorem set_length {α : Type} (l : List α) (i : Nat) (x : α) : (l.set i x).length = l.length := by simp
theorem flags_length (base : Nat) (l : List Int) (m : Mem) : (l.foldl (fun m i => m.set (base + i.toNat) (some 1)) m).length = m.length := by
  induction l generalizing m with
  | nil => rfl
  | cons a r ih => rw [List.foldl_cons, ih, set_length]
theorem anewF_length (funs : List FN) (hr : RightP funs) : ∀ (n k base : Nat) (mem : Mem), k < funs.length → base + (funs.getD k default).cells.toNat ≤ mem.length → (anewF funs n k base mem).length = mem.length := by
  intro n
  induction n with
  | zero => intro k base mem _ _; rfl
  | succ n ih =>
    intro k base mem hk hl
    simp only [anewF]
    have hp : ∀ p, p ∈ (funs.getD k default).parts → _ := hr.parts k hk
    have h0 : ((funs.getD k default).flags.foldl (fun m i => m.set (base + i.toNat) (some 1)) (clearM mem base (funs.getD k default).cells.toNat)).length = mem.length := by
      rw [flags_length, clearM_length _ _ _ hl]
    generalize ((funs.getD k default).flags.foldl (fun m i => m.set (base + i.toNat) (some 1)) (clearM mem base (funs.getD k default).cells.toNat)) = m0 at *
    generalize (funs.getD k default).parts = ps at hp
    induction ps generalizing m0 with
    | nil => exact h0
    | cons p r ihp =>
      rw [List.foldl_cons]
      have hpp := hp p List.mem_cons_self
      refine ihp (m0 := anewF funs n p.fn.toNat (base + p.at_.toNat) m0) ?_ (fun q hq => hp q (List.mem_cons_of_mem _ hq))
      rw [ih _ _ _ (by omega) (by omega)]; exact h0
end Go.Proofs.YtoaajpppbjaomaaGreatDoor
/- The runner's anew. -/
namespace Go.Proofs.YtoaajpppbjaomaaGreatDoor
open Go.RowKit
theorem cells_get {mem : Mem} {w : World} {M : Nat} (hM : w.heap[M]? = some (.cells (memC mem) 73 (0, 0))) {i : Nat} (h : i < mem.length) :
    (∃ u, w.cell? ⟨M, i * 2, none⟩ = some u) ∧ (∃ u, w.cell? ⟨M, i * 2 + 1, none⟩ = some u) ∧ w.frozen? ⟨M, i * 2, none⟩ = false ∧ w.frozen? ⟨M, i * 2 + 1, none⟩ = false := by
  obtain ⟨h1, h2⟩ := memC_get (mem := mem) (i := i) (List.getElem?_eq_getElem h)
  exact ⟨⟨_, cellB' hM _ h1⟩, ⟨_, cellB' hM _ h2⟩, frozB hM _, frozB hM _⟩
def setF (base : Nat) (m : Mem) (i : Int) : Mem := m.set (base + i.toNat) (some 1)
def FlagRel (W : World) (R M : Nat) (fv : Value) (f : FN) (base : Nat) (mem1 : Mem) (tr : Bool) (cnt : Int) (w1 : World) (i : Value) (wr : World) : Prop :=
  ∃ j : Nat, j ≤ f.flags.length ∧ i = .int .i64 j ∧ MemSt W wr R M fv ((f.flags.take j).foldl (setF base) mem1) tr cnt ∧ Keep [M] w1 wr
def PartRel (W : World) (R M : Nat) (fv : Value) (funs : List FN) (n : Nat) (f : FN) (base : Nat) (mem2 : Mem) (tr : Bool) (cnt : Int) (w2 : World) (i : Value) (wr : World) : Prop :=
  ∃ j : Nat, j ≤ f.parts.length ∧ i = .int .i64 j ∧ MemSt W wr R M fv ((f.parts.take j).foldl (fun m p => anewF funs n p.fn.toNat (base + p.at_.toNat) m) mem2) tr cnt ∧ Keep [M] w2 wr
theorem foldF_length (base : Nat) (l : List Int) (m : Mem) : (l.foldl (setF base) m).length = m.length := flags_length base l m
theorem take_snoc' {α : Type} {l : List α} {j : Nat} {x : α} (h : l[j]? = some x) : l.take (j + 1) = l.take j ++ [x] := by
  have hlt : j < l.length := by
    rcases Nat.lt_or_ge j l.length with h1 | h1
    · exact h1
    · rw [List.getElem?_eq_none h1] at h; cases h
  rw [List.take_succ_eq_append_getElem hlt]
  rw [List.getElem?_eq_getElem hlt] at h
  simp at h; rw [h]
theorem partsF_length (funs : List FN) (hr : RightP funs) (n base len : Nat) (ps : List PT) (hp : ∀ p, p ∈ ps → p.fn.toNat < funs.length ∧ base + p.at_.toNat + (funs.getD p.fn.toNat default).cells.toNat ≤ len) (m : Mem) (hm : m.length = len) :
    (ps.foldl (fun m p => anewF funs n p.fn.toNat (base + p.at_.toNat) m) m).length = len := by
  induction ps generalizing m with
  | nil => exact hm
  | cons p r ih =>
    rw [List.foldl_cons]
    obtain ⟨h1, h2⟩ := hp p List.mem_cons_self
    exact ih (fun q hq => hp q (List.mem_cons_of_mem _ hq)) _ (by rw [anewF_length funs hr n _ _ _ h1 (by omega)]; exact hm)
theorem parts_in {funs : List FN} (hr : RightP funs) {k : Nat} (hk : k < funs.length) {f : FN} (hf : funs.getD k default = f) {cl base len : Nat} (hc : f.cells = cl) (hl : base + cl ≤ len) :
    ∀ p, p ∈ f.parts → p.fn.toNat < funs.length ∧ base + p.at_.toNat + (funs.getD p.fn.toNat default).cells.toNat ≤ len := by
  intro p hp
  have h := hr.parts k hk
  rw [hf] at h
  have h2 := h p hp
  exact ⟨by omega, by omega⟩
/-- a cell of the memory is written -/
theorem MemSt.put {W w : World} {R M : Nat} {fv : Value} {mem : Mem} {tr : Bool} {cnt : Int} (h : MemSt W w R M fv mem tr cnt) (i : Nat) (o : Option Int) (hi : i < mem.length) :
    MemSt W ((w.setCell ⟨M, i * 2, none⟩ (.int .i64 (o.getD 0))).setCell ⟨M, i * 2 + 1, none⟩ (.bool o.isSome)) R M fv (mem.set i o) tr cnt ∧
      Keep [M] w ((w.setCell ⟨M, i * 2, none⟩ (.int .i64 (o.getD 0))).setCell ⟨M, i * 2 + 1, none⟩ (.bool o.isSome)) := by
  have hk : Keep [M] w ((w.setCell ⟨M, i * 2, none⟩ (.int .i64 (o.getD 0))).setCell ⟨M, i * 2 + 1, none⟩ (.bool o.isSome)) :=
    (((Keep.refl _ _).setCell (.inl (by simp)) _).setCell (.inl (by simp)) _)
  refine ⟨h.on hk ?_ (by simp), hk⟩
  have h1 := heap_setCell_eq h.hM (i * 2) (.int .i64 (o.getD 0))
  have h2 := heap_setCell_eq h1 (i * 2 + 1) (.bool o.isSome)
  rw [h2, memC_set o hi]
set_option maxRecDepth 100000 in
set_option maxHeartbeats 1000000 in
theorem anew_step {W : World} {funs : List FN} {fv : Value} {nf : Nat} (hrep : RepV (RepF W nf) 6 W fv funs) (hr : RightP funs) {R M : Nat} {tr : Bool} {cnt : Int} (n : Nat)
    (IH : ∀ (k : Nat) (base : Nat) (mem : Mem) (w : World), k < n → k < funs.length → base + (funs.getD k default).cells.toNat ≤ mem.length → MemSt W w R M fv mem tr cnt →
      Calls Tryz.prog 26 #[.pointer (some ⟨R, 0, none⟩), .int .i64 k, .int .i64 base] w (AnewP M (anewF funs n k base mem) w))
    (k : Nat) (base : Nat) (mem : Mem) (w : World) (hk : k < n + 1) (hkl : k < funs.length) (hl : base + (funs.getD k default).cells.toNat ≤ mem.length) (hS : MemSt W w R M fv mem tr cnt) :
    Calls Tryz.prog 26 #[.pointer (some ⟨R, 0, none⟩), .int .i64 k, .int .i64 base] w (AnewP M (anewF funs (n + 1) k base mem) w) := by
  generalize hf : funs.getD k default = f at *
  obtain ⟨b, o, c, Ap, cp, Ar, cr, Af, cf, Aq, cq, Ab, cb, rfl, hfl, hbW, c0, c1, c2, c3, c4, c5, _, _, r3, r4, _⟩ := fn_cells hrep hS.below hkl hf
  have r0 : w.cell? ⟨R, 0, none⟩ = some (.slice (some ⟨b, o, none⟩) funs.length c) := cellB' hS.hR 0 rfl
  have r1 : w.cell? ⟨R, 1, none⟩ = some (.slice (some ⟨M, 0, none⟩) mem.length mem.length) := cellB' hS.hR 1 rfl
  have hcl := hr.cells k hkl
  rw [hf] at hcl
  have hml := hS.mlen
  obtain ⟨cl, hcle⟩ := Int.eq_ofNat_of_zero_le hcl.1
  rw [hcle] at c2
  have hcl2 : cl ≤ 1000 := by omega
  have hl' : base + cl ≤ mem.length := by rw [hcle] at hl; simpa using hl
  have hRlt := lt_of_block hS.hR
  have HF := Lib.hid hf
  have HC := Lib.hid hcle
  have HS := Lib.hid hS
  have HI := Lib.hid IH
  have hbw : b < w.heap.size := Nat.lt_of_lt_of_le hbW hS.below.size
  have d1 : (base : Int) + cl ≤ mem.length := by omega
  have d2 : (0 : Int) ≤ (base : Int) + cl := by omega
  clear hf hcle hS IH hl hcl
  go_enter Tryz.func26, Tryz.ntmps26
  go_wp2_with fail
  refine region_qtail 10 (by kernel_rfl) (by kernel_rfl) ?_
  simp only [List.take_succ_cons, List.take_zero, List.drop_succ_cons, List.drop_zero]
  repeat (go_big_quiet_step (fail))
  refine wpQuiet_nil ?_
  intro kq
  rw [Nat.add_sub_cancel_left]
  have hAc : 0 < cl → (if List.length mem = base then some (⟨M, 0, none⟩ : Addr) else some ⟨M, base * 2, none⟩) = some ⟨M, base * 2, none⟩ := by intro h; rw [if_neg (by omega)]
  generalize (if List.length mem = base then some (⟨M, 0, none⟩ : Addr) else some ⟨M, base * 2, none⟩) = Acl at hAc ⊢
  refine wpList_clearR rfl _ rfl (M := M) (base := base) (n := cl) (mem := mem) _ ?hM0 rfl ?hA0 hl' ?_
  case hM0 => exact (Below.heap_alloc w _ M (lt_of_block HS.out.hM)).trans HS.out.hM
  case hA0 => exact hAc
  intro w1 hM1 hk1
  have hk0 : Keep [M] w w1 := (((Keep.refl [M] w).alloc _).trans ⟨hk1.os, hk1.tape, hk1.output, hk1.size, hk1.block⟩)
  have hN : w1.heap[w.heap.size]? = some (.cells #[Value.slice Ap f.params.length cp, Value.slice Ar f.results.length cr, Value.int IntKind.i64 ↑cl, Value.slice Af f.flags.length cf, Value.slice Aq f.parts.length cq, Value.slice Ab f.body.length cb] 50 (0, 0)) := by
    rw [hk1.block w.heap.size (by simp [World.drewN]) (by have := lt_of_block HS.out.hM; simp; omega)]
    show (w.heap.push _)[w.heap.size]? = _
    rw [Array.getElem?_push_size]
  have hS1 : MemSt W w1 R M _ (clearM mem base cl) tr cnt := HS.out.on hk0 hM1 (clearM_length _ _ _ hl')
  have f3 : w1.cell? ⟨w.heap.size, 3, none⟩ = some (Value.slice Af f.flags.length cf) := cellB' hN 3 rfl
  have HN := Lib.hid hN
  have HK0 := Lib.hid hk0
  have HS1 := Lib.hid hS1
  have hw1 : w.heap.size < w1.heap.size := lt_of_block hN
  have hfl2 := r3.1
  clear hN hk0 hk1 hS1 hM1 hAc
  go_wp2_with fail
  go_loopw [31] (fun i wr => FlagRel W R M (Value.slice (some ⟨b, o, none⟩) funs.length c) f base (clearM mem base cl) tr cnt w1 i wr) (fun i _ => f.flags.length - (intOf i).toNat)
  case atStart => exact ⟨0, Nat.zero_le _, rfl, HS1.out, Keep.refl _ _⟩
  case round =>
    obtain ⟨j, hj, rfl, hSj, hkj⟩ := hrel
    have hRM := hSj.hR
    rw [foldF_length, clearM_length _ _ _ hl'] at hRM
    have rr1 : wr.cell? ⟨R, 1, none⟩ = some (.slice (some ⟨M, 0, none⟩) mem.length mem.length) := cellB' hRM 1 rfl
    by_cases hlt : j < f.flags.length
    · obtain ⟨_, _, he, _, _, _, hget⟩ := r3.get hSj.below
      obtain ⟨bF, oF, cs, hAf, hbF, _, hRI, hAt⟩ := hget j _ (List.getElem?_eq_getElem hlt)
      obtain ⟨rfl, _⟩ := hRI
      have hin := hr.flags k hkl
      rw [HF.out] at hin
      have hx := hin f.flags[j] (List.getElem_mem hlt)
      obtain ⟨x, hxe⟩ := Int.eq_ofNat_of_zero_le hx.1
      have hcf : wr.cell? ⟨bF, oF + j, none⟩ = some (.int .i64 x) := by
        have := hAt 0 _ rfl
        simpa [hxe] using this
      injection he with he1 he2 he3
      subst he1
      have hAf' := hAf
      subst hAf'
      have hxl : x < cl := by have := HC.out; omega
      have hbx : base + x < mem.length := by omega
      obtain ⟨⟨u1, g1⟩, ⟨u2, g2⟩, g3, g4⟩ := cells_get hSj.hM (i := base + x) (by rw [foldF_length, clearM_length _ _ _ hl']; exact hbx)
      have e1 : (base : Int) + x < mem.length := by omega
      have HP := Lib.hid (hSj.put (base + x) (some 1) (by rw [foldF_length, clearM_length _ _ _ hl']; exact hbx))
      have HT := Lib.hid (take_snoc' (List.getElem?_eq_getElem hlt))
      have HX := Lib.hid hxe
      have HKJ := Lib.hid hkj
      clear hSj hRM hAt hget hin hx hxe hkj hAf he2 he3
      go_wp2_with fail
      refine ⟨⟨j + 1, by omega, by go_num, ?_, HKJ.out.trans HP.out.2⟩, by simp [intOf]; omega⟩
      have h := HP.out.1
      rw [HT.out, List.foldl_append, List.foldl_cons, List.foldl_nil]
      unfold setF at h ⊢
      rw [HX.out]
      exact h
    · obtain rfl : j = f.flags.length := by omega
      have hNM : w.heap.size ≠ M := by have := lt_of_block HS.out.hM; omega
      have hNr : wr.heap[w.heap.size]? = _ := (hkj.block w.heap.size hw1 (by simp [hNM])).trans HN.out
      have f4 : wr.cell? ⟨w.heap.size, 4, none⟩ = some (Value.slice Aq f.parts.length cq) := cellB' hNr 4 rfl
      rw [List.take_length] at hSj
      have HSJ := Lib.hid hSj
      have HKJ := Lib.hid hkj
      have hql := r4.1
      have hl2 := foldF_length base f.flags (clearM mem base cl)
      rw [clearM_length _ _ _ hl'] at hl2
      have HL2 := Lib.hid hl2
      clear hSj hRM hkj hNr hl2
      obtain ⟨wo, rfl⟩ : ∃ wo : World, wo = wr := ⟨_, rfl⟩
      go_wp2_with fail
      go_loopw [48] (fun i wr => PartRel W R M (Value.slice (some ⟨b, o, none⟩) funs.length c) funs n f base (f.flags.foldl (setF base) (clearM mem base cl)) tr cnt wo i wr) (fun i _ => f.parts.length - (intOf i).toNat)
      case atStart => exact ⟨0, Nat.zero_le _, rfl, HSJ.out, Keep.refl _ _⟩
      case round =>
        obtain ⟨j, hj, rfl, hSj, hkj⟩ := hrel
        by_cases hlt2 : j < f.parts.length
        · obtain ⟨_, _, he, _, _, _, hget⟩ := r4.get hSj.below
          obtain ⟨bQ, oQ, cs, hAq, hbQ, _, hRI, hAt⟩ := hget j _ (List.getElem?_eq_getElem hlt2)
          obtain ⟨rfl, _⟩ := hRI
          have hin := hr.parts k hkl
          rw [HF.out] at hin
          have hx := hin f.parts[j] (List.getElem_mem hlt2)
          obtain ⟨pa, hpa⟩ := Int.eq_ofNat_of_zero_le hx.2.2.1
          obtain ⟨pf, hpf⟩ := Int.eq_ofNat_of_zero_le hx.1
          have hc0 : wr.cell? ⟨bQ, oQ + j * 2, none⟩ = some (.int .i64 pa) := by
            have := hAt 0 _ rfl
            simpa [hpa] using this
          have hc1 : wr.cell? ⟨bQ, oQ + j * 2 + 1, none⟩ = some (.int .i64 pf) := by
            have := hAt 1 _ rfl
            simpa [hpf] using this
          injection he with he1 he2 he3
          subst he1
          have hAq' := hAq
          subst hAq'
          have hbq2 : bQ < wr.heap.size := Nat.lt_of_lt_of_le hbQ hSj.below.size
          have hpfk : pf < k := by have := hx.2.1; omega
          have hfit : base + pa + (funs.getD pf default).cells.toNat ≤ ((f.parts.take j).foldl (fun m p => anewF funs n p.fn.toNat (base + p.at_.toNat) m) (f.flags.foldl (setF base) (clearM mem base cl))).length := by
            have hpin := parts_in hr hkl HF.out HC.out hl'
            rw [partsF_length funs hr n base mem.length _ (fun p hp => hpin p (List.mem_of_mem_take hp)) _ HL2.out]
            have := (hpin f.parts[j] (List.getElem_mem hlt2)).2
            rw [hpa, hpf] at this
            simpa using this
          have HFIT := Lib.hid hfit
          have HT := Lib.hid (take_snoc' (List.getElem?_eq_getElem hlt2))
          have HPA := Lib.hid hpa
          have HPF := Lib.hid hpf
          have HKJ2 := Lib.hid hkj
          have HSJ2 := Lib.hid hSj
          have hb64 : (base : Int) + pa ≤ 9223372036854775807 := by have := HC.out; have := hx.2.2.2.1; omega
          clear hSj hAt hget hin hx hpa hpf hkj hAq he2 he3 hfit
          go_wp2_with fail
          rw [show (base : Int) + pa = ((base + pa : Nat) : Int) from by omega]
          refine (HI.out pf (base + pa) _ _ (by omega) (by omega) HFIT.out (HSJ2.out.on ((Keep.refl _ _).alloc _) ((Below.heap_alloc _ _ _ (lt_of_block HSJ2.out.hM)).trans HSJ2.out.hM) rfl)).mono ?_
          rintro e w3 ⟨rfl, hm3, hk3⟩
          have HM3 := Lib.hid hm3
          have HK3 := Lib.hid hk3
          clear hm3 hk3
          go_wp2_with fail
          refine ⟨⟨j + 1, by omega, by go_num, ?_, HKJ2.out.trans (((Keep.refl _ _).alloc _).trans HK3.out)⟩, by simp [intOf]; omega⟩
          rw [HT.out, List.foldl_append, List.foldl_cons, List.foldl_nil, HPF.out, HPA.out]
          refine (HSJ2.out.on ((Keep.refl _ _).alloc _) ((Below.heap_alloc _ _ _ (lt_of_block HSJ2.out.hM)).trans HSJ2.out.hM) rfl).on HK3.out HM3.out ?_
          exact anewF_length funs hr n _ _ _ (by omega) HFIT.out
        · obtain rfl : j = f.parts.length := by omega
          rw [List.take_length] at hSj
          have HSJ2 := Lib.hid hSj
          have HKJ2 := Lib.hid hkj
          clear hSj hkj
          go_wp2_with fail
          go_end0
          refine ⟨rfl, ?_, HK0.out.trans (HKJ.out.trans HKJ2.out)⟩
          have h := HSJ2.out.hM
          simp only [anewF, HF.out, HC.out]
          exact h
theorem anew_any {W : World} {funs : List FN} {fv : Value} {nf : Nat} (hrep : RepV (RepF W nf) 6 W fv funs) (hr : RightP funs) {R M : Nat} {tr : Bool} {cnt : Int} :
    ∀ (n k base : Nat) (mem : Mem) (w : World), k < n → k < funs.length → base + (funs.getD k default).cells.toNat ≤ mem.length → MemSt W w R M fv mem tr cnt →
      Calls Tryz.prog 26 #[.pointer (some ⟨R, 0, none⟩), .int .i64 k, .int .i64 base] w (AnewP M (anewF funs n k base mem) w) := by
  intro n
  induction n with
  | zero => intro k base mem w h; omega
  | succ n ih => intro k base mem w hk hkl hl hS; exact anew_step hrep hr n ih k base mem w hk hkl hl hS
end Go.Proofs.YtoaajpppbjaomaaGreatDoor
/- The runner's expressions. -/
namespace Go.Proofs.YtoaajpppbjaomaaGreatDoor
open Go.RowKit

def ValP (r : Option (Option Int)) (w : World) (e : Ending) (w' : World) : Prop :=
  match r with
  | none => Traps w e w'
  | some o => RetB (cellR o) w e w'
theorem ret_cellR (o : Option Int) {w w' : World} (h : Below w.heap.size w w') : ValP (some o) w (.returned (.agg #[.int .i64 (o.getD 0), .bool o.isSome])) w' := ⟨rfl, h⟩
theorem below_three (w : World) (o1 o2 o3 : Obj) : Below w.heap.size w (((w.alloc o1).alloc o2).alloc o3) :=
  (((Below.refl _ _).alloc (Nat.le_refl _) _).alloc (by simp) _).alloc (by simp; omega) _
theorem below_threeN (w : World) (o1 o2 o3 : Obj) (n : Nat) : Below w.heap.size w ((((w.alloc o1).alloc o2).alloc o3).drewN n) := Below.drewN' (below_three _ _ _ _) n
set_option maxRecDepth 100000 in
set_option maxHeartbeats 400000 in
theorem value_int {W w : World} {F R M V : Nat} {fv : Value} {base : Nat} {mem : Mem} {cnt : Int} {vs : Vars} (h : RnF W w F R M V fv base mem cnt vs)
    (name : ByteArray) (v : Int) (vc : Value) (_hvc : vc.oneCell' = true) (A : Option Addr) (c : Nat) :
    Calls Tryz.prog 60 #[.pointer (some ⟨F, 0, none⟩), .agg #[.int .i64 1, .string name, .int .i64 v, vc, .slice A 0 c]] w (ValP (some (some v)) w) := by
  have c0 := h.c0
  clear h
  go_enter Tryz.func60, Tryz.ntmps60
  go_wp2_with fail
  exact bodyPost_ret (v := .agg #[.int .i64 v, .bool true]) (by simp [results, Tryz.results60, go_sem]) rfl
    ⟨rfl, (((Below.refl _ _).alloc (Nat.le_refl _) _).alloc (by simp) _).alloc (by simp; omega) _⟩
theorem bx_lookupR {w : World} {ops : Array Oper} {rest : List Oper} {o : Oper} {a : Act} {Q : Act → Prop}
    (hg : o.guard = none) (m x : Operand) (hop : o.op = Op.lookup 95 m x false) {V : Nat} {vs : Vars} {s : ByteArray} (h : VarsAt w V vs)
    (hm : a.eval m = .map (some V)) (hx : a.eval x = .string s)
    (hK : Bx (wpStill Tryz.prog ops w Q rest (a.put o.dst (.agg #[.int .i64 ((getv vs s).getD 0), .bool (getv vs s).isSome])))) : Bx (wpStill Tryz.prog ops w Q (o :: rest) a) := by
  refine bx_step fun K hK' => ?_
  have hrun := run_lookup h s
  simp only [Region.wanted, hg, if_true]
  unfold Oper.still
  simp [execOp, hop, hm, hx, hrun, Result.andThen]
  rw [Oper.stillUpon_value]
  exact hK' _ hK
set_option maxRecDepth 100000 in
set_option maxHeartbeats 400000 in
theorem value_var {W w : World} {F R M V : Nat} {fv : Value} {base : Nat} {mem : Mem} {cnt : Int} {vs : Vars} (h : RnF W w F R M V fv base mem cnt vs)
    (name : ByteArray) (v : Int) (vc : Value) (_hvc : vc.oneCell' = true) (A : Option Addr) (c : Nat) :
    Calls Tryz.prog 60 #[.pointer (some ⟨F, 0, none⟩), .agg #[.int .i64 4, .string name, .int .i64 v, vc, .slice A 0 c]] w (ValP (some (getv vs name)) w) := by
  have c0 := h.c0
  have c2 := h.c2
  have H := Lib.hid h
  have hlt := lt_of_block h.hF
  have hlt1 : F < w.heap.size + 1 := by omega
  have hlt2 : F < w.heap.size + 1 + 1 := by omega
  clear h
  go_enter Tryz.func60, Tryz.ntmps60
  go_wp2_with fail
  refine region_tail 7 (by kernel_rfl) (by kernel_rfl) ?_
  simp only [List.take_succ_cons, List.take_zero, List.drop_succ_cons, List.drop_zero]
  iterate 6 (refine bx_step (fun K hK => ?_); go_simp; refine hK _ ?_; clear hK K)
  refine bx_lookupR rfl _ _ rfl (V := V) (vs := vs) (s := name) ?_ rfl rfl ?_
  · exact (H.out.on (((((Below.refl _ _).alloc (Nat.le_refl _) _).alloc (by simp) _).alloc (by simp; omega) _).drew)).hV
  refine bx_nil ?_
  go_wp2_with fail
  exact bodyPost_ret (v := .agg #[.int .i64 ((getv vs name).getD 0), .bool (getv vs name).isSome]) (by simp [results, Tryz.results60, go_sem]) rfl (ret_cellR (getv vs name) (below_three _ _ _ _).drew)
set_option maxRecDepth 100000 in
set_option maxHeartbeats 400000 in
theorem value_mem {W w : World} {F R M V : Nat} {fv : Value} {base : Nat} {mem : Mem} {cnt : Int} {vs : Vars} (h : RnF W w F R M V fv base mem cnt vs)
    (name : ByteArray) (n : Int) (vc : Value) (_hvc : vc.oneCell' = true) (A : Option Addr) (c : Nat) (h0 : 0 ≤ n) (h1 : n < (mem.length : Int) - base) (o : Option Int) (hg : mem[base + n.toNat]? = some o) :
    Calls Tryz.prog 60 #[.pointer (some ⟨F, 0, none⟩), .agg #[.int .i64 16, .string name, .int .i64 n, vc, .slice A 0 c]] w (ValP (some o) w) := by
  obtain ⟨m0, m1⟩ := h.m hg
  have hM := lt_of_block h.hM
  have hM1 : M < w.heap.size + 1 := by omega
  have hM2 : M < w.heap.size + 1 + 1 := by omega
  have H := Lib.hid h
  have HN := Lib.hid h0
  have HN1 := Lib.hid h1
  clear h hg h0 h1
  go_enter Tryz.func60, Tryz.ntmps60
  go_wp2_with fail
  refine (at_in (H.out.on ?hbb) _ HN.out HN1.out).mono ?_
  case hbb => exact below_three _ _ _ _
  rintro e w' ⟨rfl, k, rfl⟩
  go_wp2_with fail
  exact bodyPost_ret (v := .agg #[.int .i64 (o.getD 0), .bool o.isSome]) (by simp [results, Tryz.results60, go_sem]) rfl (ret_cellR o (((below_threeN _ _ _ _ _).setCell (by simp) _).setCell (by simp) _))
set_option maxRecDepth 100000 in
set_option maxHeartbeats 400000 in
theorem value_memT {W w : World} {F R M V : Nat} {fv : Value} {base : Nat} {mem : Mem} {cnt : Int} {vs : Vars} (h : RnF W w F R M V fv base mem cnt vs)
    (name : ByteArray) (n : Int) (vc : Value) (_hvc : vc.oneCell' = true) (A : Option Addr) (c : Nat) (h0 : ¬ (0 ≤ n ∧ n < (mem.length : Int) - base)) :
    Calls Tryz.prog 60 #[.pointer (some ⟨F, 0, none⟩), .agg #[.int .i64 16, .string name, .int .i64 n, vc, .slice A 0 c]] w (ValP none w) := by
  have H := Lib.hid h
  have HN := Lib.hid h0
  clear h h0
  go_enter Tryz.func60, Tryz.ntmps60
  go_wp2_with fail
  refine (at_out (H.out.on ?hbb) _ HN.out).mono ?_
  case hbb => exact below_three _ _ _ _
  rintro e w' ⟨rfl, hb⟩
  exact ⟨rfl, rfl, (below_three _ _ _ _).trans (hb.mono (by simp; omega))⟩
def op0 (op : Int) : Prop := op ≠ 1 ∧ op ≠ 4 ∧ op ≠ 16
set_option maxRecDepth 100000 in
set_option maxHeartbeats 400000 in
theorem value_off0 (F : Nat) (w : World) (op : Int) (h : op ≠ 1 ∧ op ≠ 4 ∧ op ≠ 16) (name : ByteArray) (n : Int) (vc : Value) (_hvc : vc.oneCell' = true) (A : Option Addr) (c : Nat) :
    Calls Tryz.prog 60 #[.pointer (some ⟨F, 0, none⟩), .agg #[.int .i64 op, .string name, .int .i64 n, vc, .slice A 0 c]] w (ValP (some none) w) := by
  have h1 : (op == 1) = false := by simp [h.1]
  have h2 : (op == 4) = false := by simp [h.2.1]
  have h3 : (op == 16) = false := by simp [h.2.2]
  clear h
  go_enter Tryz.func60, Tryz.ntmps60
  go_wp2_with fail
  exact bodyPost_ret (v := .agg #[.int .i64 0, .bool false]) (by simp [results, Tryz.results60, go_sem]) rfl (ret_cellR none (below_three _ _ _ _))
/-- a kid, cell by cell -/
theorem kid_cells {W w : World} {n : Nat} {vk : Value} {kids : List XE} (h : RepV (RepX W n) 5 W vk kids) (hb : Below W.heap.size W w) :
    ∃ A c, vk = .slice A kids.length c ∧ kids.length ≤ c ∧ c ≤ 9223372036854775807 ∧ kids.length ≤ 1048576 ∧ ∀ j x, kids[j]? = some x → ∃ b o p s v vc vk', A = some ⟨b, o, none⟩ ∧ b < w.heap.size ∧
      RepX W n x [.int .i64 p, .string s, .int .i64 v, vc, vk'] ∧ vc.oneCell' = true ∧ vk'.oneCell' = true ∧
      w.cell? ⟨b, o + j * 5, none⟩ = some (.int .i64 p) ∧ w.cell? ⟨b, o + j * 5 + 1, none⟩ = some (.string s) ∧ w.cell? ⟨b, o + j * 5 + 2, none⟩ = some (.int .i64 v) ∧ w.cell? ⟨b, o + j * 5 + 3, none⟩ = some vc ∧ w.cell? ⟨b, o + j * 5 + 4, none⟩ = some vk' := by
  obtain ⟨A, c, hv, h1, h2, h3, h4⟩ := h.get hb
  refine ⟨A, c, hv, h1, h2, h3, fun j x hj => ?_⟩
  obtain ⟨b, o, cs, hA, hlt, hlen, hR, hAt⟩ := h4 j x hj
  cases n with
  | zero => exact hR.elim
  | succ n =>
    cases x with
    | mk op name v kids' =>
      have hR' := hR
      obtain ⟨vc, vk', rfl, hvc, i1, i2, i3, hk⟩ := hR
      obtain ⟨_, A', c', rfl, _⟩ := hk
      exact ⟨b, o, op, name, v, vc, _, hA, Nat.lt_of_lt_of_le hlt hb.size, hR', hvc.one, rfl, hAt 0 _ rfl, hAt 1 _ rfl, hAt 2 _ rfl, hAt 3 _ rfl, hAt 4 _ rfl⟩
theorem valT {w : World} {e : Ending} {w' : World} (h : ValP none w e w') : e = .panicked [trapE] ∧ Below w.heap.size w w' := h
theorem valN {w : World} {e : Ending} {w' : World} (h : ValP (some none) w e w') : e = .returned (.agg #[.int .i64 0, .bool false]) ∧ Below w.heap.size w w' := h
theorem valS {w : World} {e : Ending} {w' : World} {x : Int} (h : ValP (some (some x)) w e w') : e = .returned (.agg #[.int .i64 x, .bool true]) ∧ Below w.heap.size w w' := h
section un
variable {W w : World} {F R M V : Nat} {fv : Value} {base : Nat} {mem : Mem} {cnt : Int} {vs : Vars} (h : RnF W w F R M V fv base mem cnt vs)
    (name : ByteArray) (v : Int) (vc : Value) (b o c : Nat) (p : Int) (s : ByteArray) (v' : Int) (vc' vk' : Value)
    (hb : b < w.heap.size)
    (q0 : w.cell? ⟨b, o, none⟩ = some (.int .i64 p)) (q1 : w.cell? ⟨b, o + 1, none⟩ = some (.string s)) (q2 : w.cell? ⟨b, o + 2, none⟩ = some (.int .i64 v')) (q3 : w.cell? ⟨b, o + 3, none⟩ = some vc') (q4 : w.cell? ⟨b, o + 4, none⟩ = some vk')
include h hb q0 q1 q2 q3 q4
set_option maxRecDepth 100000 in
set_option maxHeartbeats 400000 in
theorem value_unT (IH : ∀ w, RnF W w F R M V fv base mem cnt vs → Calls Tryz.prog 60 #[.pointer (some ⟨F, 0, none⟩), .agg #[.int .i64 p, .string s, .int .i64 v', vc', vk']] w (ValP none w)) :
    Calls Tryz.prog 60 #[.pointer (some ⟨F, 0, none⟩), .agg #[.int .i64 5, .string name, .int .i64 v, vc, .slice (some ⟨b, o, none⟩) 1 c]] w (ValP none w) := by
  have H := Lib.hid h
  have HI := Lib.hid IH
  have hb1 : b < w.heap.size + 1 := by omega
  have hb2 : b < w.heap.size + 1 + 1 := by omega
  clear h IH
  go_enter Tryz.func60, Tryz.ntmps60
  go_wp2_with fail
  refine (HI.out _ (H.out.on ?hbb)).mono ?_
  case hbb => exact below_three _ _ _ _
  intro e w' hv
  obtain ⟨rfl, hb'⟩ := valT hv
  exact ⟨rfl, rfl, (below_three _ _ _ _).trans (hb'.mono (by simp; omega))⟩
set_option maxRecDepth 100000 in
set_option maxHeartbeats 400000 in
theorem value_unN (IH : ∀ w, RnF W w F R M V fv base mem cnt vs → Calls Tryz.prog 60 #[.pointer (some ⟨F, 0, none⟩), .agg #[.int .i64 p, .string s, .int .i64 v', vc', vk']] w (ValP (some none) w)) :
    Calls Tryz.prog 60 #[.pointer (some ⟨F, 0, none⟩), .agg #[.int .i64 5, .string name, .int .i64 v, vc, .slice (some ⟨b, o, none⟩) 1 c]] w (ValP (some none) w) := by
  have H := Lib.hid h
  have HI := Lib.hid IH
  have hb1 : b < w.heap.size + 1 := by omega
  have hb2 : b < w.heap.size + 1 + 1 := by omega
  clear h IH
  go_enter Tryz.func60, Tryz.ntmps60
  go_wp2_with fail
  refine (HI.out _ (H.out.on ?hbb)).mono ?_
  case hbb => exact below_three _ _ _ _
  intro e w1 hv
  obtain ⟨rfl, hb'⟩ := valN hv
  have HB := Lib.hid hb'
  obtain ⟨hc, hf⟩ := bcell hb'
  have hz : w.heap.size + 1 + 1 < w1.heap.size := by have := hb'.size; simp at this; omega
  have hz1 : w.heap.size + 1 < w1.heap.size := by omega
  have hz2 : w.heap.size < w1.heap.size := by omega
  clear hb' hv
  go_wp2_with fail
  refine bodyPost_ret (v := .agg #[.int .i64 0, .bool false]) (by simp [results, Tryz.results60, go_sem, hc, hz1]) rfl (ret_cellR none ?_)
  repeat' (first | exact (below_three _ _ _ _).trans (HB.out.mono (by simp; omega)) | refine Below.setCell ?_ (by simp) _ | refine Below.alloc ?_ (by simp [World.setCell]; omega) _)
set_option maxRecDepth 100000 in
set_option maxHeartbeats 400000 in
theorem value_unS (x : Int) (IH : ∀ w, RnF W w F R M V fv base mem cnt vs → Calls Tryz.prog 60 #[.pointer (some ⟨F, 0, none⟩), .agg #[.int .i64 p, .string s, .int .i64 v', vc', vk']] w (ValP (some (some x)) w)) :
    Calls Tryz.prog 60 #[.pointer (some ⟨F, 0, none⟩), .agg #[.int .i64 5, .string name, .int .i64 v, vc, .slice (some ⟨b, o, none⟩) 1 c]] w (ValP (some (unop name x)) w) := by
  have H := Lib.hid h
  have HI := Lib.hid IH
  have hb1 : b < w.heap.size + 1 := by omega
  have hb2 : b < w.heap.size + 1 + 1 := by omega
  clear h IH
  go_enter Tryz.func60, Tryz.ntmps60
  go_wp2_with fail
  refine (HI.out _ (H.out.on ?hbb)).mono ?_
  case hbb => exact below_three _ _ _ _
  intro e w1 hv
  obtain ⟨rfl, hb'⟩ := valS hv
  have HB := Lib.hid hb'
  obtain ⟨hc, hf⟩ := bcell hb'
  have hz : w.heap.size + 1 + 1 < w1.heap.size := by have := hb'.size; simp at this; omega
  have hz1 : w.heap.size + 1 < w1.heap.size := by omega
  have hz2 : w.heap.size < w1.heap.size := by omega
  clear hb' hv
  go_wp2_with fail
  refine (un_any _ _ _).mono ?_
  rintro e w2 ⟨rfl, rfl⟩
  unfold unV
  generalize hu : unop name x = u
  have HU := Lib.hid hu
  cases u with
  | none =>
    clear hu
    go_wp2_with fail
    refine bodyPost_ret (v := .agg #[.int .i64 0, .bool false]) (by simp [results, Tryz.results60, go_sem, hc, hz1]) rfl ?_
    rw [HU.out]
    refine ret_cellR none ?_
    repeat' (first | exact (below_three _ _ _ _).trans (HB.out.mono (by simp; omega)) | refine Below.setCell ?_ (by simp) _ | refine Below.alloc ?_ (by simp [World.setCell]; omega) _)
  | some y =>
    clear hu
    go_wp2_with fail
    refine bodyPost_ret (v := .agg #[.int .i64 y, .bool true]) (by simp [results, Tryz.results60, go_sem, hc, hz1]) rfl ?_
    rw [HU.out]
    refine ret_cellR (some y) ?_
    repeat' (first | exact (below_three _ _ _ _).trans (HB.out.mono (by simp; omega)) | refine Below.setCell ?_ (by simp) _ | refine Below.alloc ?_ (by simp [World.setCell]; omega) _)
end un
section bin
variable {W w : World} {F R M V : Nat} {fv : Value} {base : Nat} {mem : Mem} {cnt : Int} {vs : Vars} (h : RnF W w F R M V fv base mem cnt vs)
    (name : ByteArray) (v : Int) (vc : Value) (b o c : Nat) (p : Int) (s : ByteArray) (v' : Int) (vc' vk' : Value) (p2 : Int) (s2 : ByteArray) (v2 : Int) (vc2 vk2 : Value)
    (hb : b < w.heap.size)
    (q0 : w.cell? ⟨b, o, none⟩ = some (.int .i64 p)) (q1 : w.cell? ⟨b, o + 1, none⟩ = some (.string s)) (q2 : w.cell? ⟨b, o + 2, none⟩ = some (.int .i64 v')) (q3 : w.cell? ⟨b, o + 3, none⟩ = some vc') (q4 : w.cell? ⟨b, o + 4, none⟩ = some vk')
    (s0 : w.cell? ⟨b, o + 5, none⟩ = some (.int .i64 p2)) (s1 : w.cell? ⟨b, o + 5 + 1, none⟩ = some (.string s2)) (s2' : w.cell? ⟨b, o + 5 + 2, none⟩ = some (.int .i64 v2)) (s3 : w.cell? ⟨b, o + 5 + 3, none⟩ = some vc2) (s4 : w.cell? ⟨b, o + 5 + 4, none⟩ = some vk2)
include h hb q0 q1 q2 q3 q4
set_option maxRecDepth 100000 in
set_option maxHeartbeats 400000 in
theorem value_binT (IH : ∀ w, RnF W w F R M V fv base mem cnt vs → Calls Tryz.prog 60 #[.pointer (some ⟨F, 0, none⟩), .agg #[.int .i64 p, .string s, .int .i64 v', vc', vk']] w (ValP none w)) :
    Calls Tryz.prog 60 #[.pointer (some ⟨F, 0, none⟩), .agg #[.int .i64 6, .string name, .int .i64 v, vc, .slice (some ⟨b, o, none⟩) 2 c]] w (ValP none w) := by
  have H := Lib.hid h
  have HI := Lib.hid IH
  have hb1 : b < w.heap.size + 1 := by omega
  have hb2 : b < w.heap.size + 1 + 1 := by omega
  clear h IH
  go_enter Tryz.func60, Tryz.ntmps60
  go_wp2_with fail
  refine (HI.out _ (H.out.on ?hbb)).mono ?_
  case hbb => exact below_three _ _ _ _
  intro e w' hv
  obtain ⟨rfl, hb'⟩ := valT hv
  exact ⟨rfl, rfl, (below_three _ _ _ _).trans (hb'.mono (by simp; omega))⟩
include s0 s1 s2' s3 s4
set_option maxRecDepth 100000 in
set_option maxHeartbeats 800000 in
theorem value_bin2 (o1 : Option Int) (r2 : Option (Option Int)) (hi1 : ∀ x, o1 = some x → I64 x) (hi2 : ∀ x, r2 = some (some x) → I64 x)
    (IH : ∀ w, RnF W w F R M V fv base mem cnt vs → Calls Tryz.prog 60 #[.pointer (some ⟨F, 0, none⟩), .agg #[.int .i64 p, .string s, .int .i64 v', vc', vk']] w (ValP (some o1) w))
    (IH2 : ∀ w, RnF W w F R M V fv base mem cnt vs → Calls Tryz.prog 60 #[.pointer (some ⟨F, 0, none⟩), .agg #[.int .i64 p2, .string s2, .int .i64 v2, vc2, vk2]] w (ValP r2 w)) :
    Calls Tryz.prog 60 #[.pointer (some ⟨F, 0, none⟩), .agg #[.int .i64 6, .string name, .int .i64 v, vc, .slice (some ⟨b, o, none⟩) 2 c]] w (ValP (r2.map fun y => o1.bind fun x => y.bind fun y => binop name x y) w) := by
  have H := Lib.hid h
  have HI := Lib.hid IH
  have HI2 := Lib.hid IH2
  have HR := Lib.hid hi1
  have HR2 := Lib.hid hi2
  have hb1 : b < w.heap.size + 1 := by omega
  have hb2 : b < w.heap.size + 1 + 1 := by omega
  clear h IH IH2 hi1 hi2
  go_enter Tryz.func60, Tryz.ntmps60
  go_wp2_with fail
  refine (HI.out _ (H.out.on ?hbb)).mono ?_
  case hbb => exact below_three _ _ _ _
  intro e w1 hv
  obtain ⟨rfl, hb'⟩ : e = .returned (.agg #[.int .i64 (o1.getD 0), .bool o1.isSome]) ∧ _ := hv
  have HB : Below w.heap.size w w1 := (below_three _ _ _ _).trans (hb'.mono (by simp; omega))
  obtain ⟨hc, hf⟩ := bcell hb'
  have hz : w.heap.size + 1 + 1 < w1.heap.size := by have := hb'.size; simp at this; omega
  have hz1 : w.heap.size + 1 < w1.heap.size := by omega
  have hz2 : w.heap.size < w1.heap.size := by omega
  have hz3 : b < w1.heap.size := by omega
  have HBh := Lib.hid HB
  clear hb' HB
  go_wp2_with fail
  refine (HI2.out _ (H.out.on ?hbb2)).mono ?_
  case hbb2 => exact HBh.out.alloc (Nat.le_of_lt hz2) _
  intro e w2 hv
  cases r2 with
  | none =>
    obtain ⟨rfl, hb'⟩ := valT hv
    exact ⟨rfl, rfl, (HBh.out.alloc (Nat.le_of_lt hz2) _).trans (hb'.mono (by simp; omega))⟩
  | some o2 =>
    obtain ⟨rfl, hb'⟩ : e = .returned (.agg #[.int .i64 (o2.getD 0), .bool o2.isSome]) ∧ _ := hv
    have HB : Below w.heap.size w w2 := (HBh.out.alloc (Nat.le_of_lt hz2) _).trans (hb'.mono (by simp; omega))
    obtain ⟨hc2, hf2⟩ := bcell hb'
    have hy : w1.heap.size < w2.heap.size := by have := hb'.size; simp at this; omega
    have hy1 : w.heap.size + 1 < w2.heap.size := by omega
    have hy2 : w.heap.size < w2.heap.size := by omega
    have hy3 : w.heap.size + 1 + 1 < w2.heap.size := by omega
    have hx1 : w.heap.size + 1 < w1.heap.size + 1 := by omega
    have hx2 : w.heap.size < w1.heap.size + 1 := by omega
    have hyy : w.heap.size + 1 < w2.heap.size + 1 := by omega
    have HB2 := Lib.hid HB
    clear hb' HB
    cases o1 with
    | none =>
      go_wp2_with fail
      refine bodyPost_ret (v := .agg #[.int .i64 0, .bool false]) (by simp [results, Tryz.results60, go_sem, hc2, hc, hy1, hz1, hx1]) rfl ?_
      refine ret_cellR none ?_
      repeat' (first | exact HB2.out | refine Below.setCell ?_ (by simp) _ | refine Below.alloc ?_ (by simp [World.setCell]; omega) _)
    | some x =>
      cases o2 with
      | none =>
        go_wp2_with fail
        refine bodyPost_ret (v := .agg #[.int .i64 0, .bool false]) (by simp [results, Tryz.results60, go_sem, hc2, hc, hy1, hz1, hx1]) rfl ?_
        refine ret_cellR none ?_
        repeat' (first | exact HB2.out | refine Below.setCell ?_ (by simp) _ | refine Below.alloc ?_ (by simp [World.setCell]; omega) _)
      | some y =>
        have hx := HR.out x rfl
        have hy' := HR2.out y rfl
        go_wp2_with fail
        refine (bin_any _ _ _ hx hy' _).mono ?_
        rintro e w3 ⟨rfl, hb3⟩
        have HB3 := Lib.hid hb3
        obtain ⟨hc3, hf3⟩ := bcell hb3
        unfold binV
        generalize hu : binop name x y = u
        have HU := Lib.hid hu
        have hw1 : w.heap.size + 1 < w3.heap.size := by have := hb3.size; simp at this; omega
        have HB4 : Below w.heap.size w w3 := (HB2.out.alloc (Nat.le_of_lt hy2) _).trans (hb3.mono (by simp; omega))
        have HB4h := Lib.hid HB4
        clear hb3 hu HB4
        cases u with
        | none =>
          go_wp2_with fail
          refine bodyPost_ret (v := .agg #[.int .i64 0, .bool false]) (by simp [results, Tryz.results60, go_sem, hc3, hc2, hc, hy1, hz1, hx1, hyy]) rfl ?_
          show ValP (some (binop name x y)) _ _ _
          rw [HU.out]
          refine ret_cellR none ?_
          repeat' (first | exact HB4h.out | refine Below.setCell ?_ (by simp) _ | refine Below.alloc ?_ (by simp [World.setCell]; omega) _)
        | some z =>
          go_wp2_with fail
          refine bodyPost_ret (v := .agg #[.int .i64 z, .bool true]) (by simp [results, Tryz.results60, go_sem, hc3, hc2, hc, hy1, hz1, hx1, hyy]) rfl ?_
          show ValP (some (binop name x y)) _ _ _
          rw [HU.out]
          refine ret_cellR (some z) ?_
          repeat' (first | exact HB4h.out | refine Below.setCell ?_ (by simp) _ | refine Below.alloc ?_ (by simp [World.setCell]; omega) _)
end bin
end Go.Proofs.YtoaajpppbjaomaaGreatDoor
/- The runner's expressions: a choice; what is none. -/
namespace Go.Proofs.YtoaajpppbjaomaaGreatDoor
open Go.RowKit
section cond
variable {W w : World} {F R M V : Nat} {fv : Value} {base : Nat} {mem : Mem} {cnt : Int} {vs : Vars} (h : RnF W w F R M V fv base mem cnt vs)
    (name : ByteArray) (v : Int) (vc : Value) (b o c : Nat) (p : Int) (s : ByteArray) (v' : Int) (vc' vk' : Value) (p2 : Int) (s2 : ByteArray) (v2 : Int) (vc2 vk2 : Value)
    (hb : b < w.heap.size)
    (q0 : w.cell? ⟨b, o, none⟩ = some (.int .i64 p)) (q1 : w.cell? ⟨b, o + 1, none⟩ = some (.string s)) (q2 : w.cell? ⟨b, o + 2, none⟩ = some (.int .i64 v')) (q3 : w.cell? ⟨b, o + 3, none⟩ = some vc') (q4 : w.cell? ⟨b, o + 4, none⟩ = some vk')
include h hb q0 q1 q2 q3 q4
set_option maxRecDepth 100000 in
set_option maxHeartbeats 400000 in
theorem value_ifT (IH : ∀ w, RnF W w F R M V fv base mem cnt vs → Calls Tryz.prog 60 #[.pointer (some ⟨F, 0, none⟩), .agg #[.int .i64 p, .string s, .int .i64 v', vc', vk']] w (ValP none w)) :
    Calls Tryz.prog 60 #[.pointer (some ⟨F, 0, none⟩), .agg #[.int .i64 7, .string name, .int .i64 v, vc, .slice (some ⟨b, o, none⟩) 3 c]] w (ValP none w) := by
  have H := Lib.hid h
  have HI := Lib.hid IH
  have hb1 : b < w.heap.size + 1 := by omega
  have hb2 : b < w.heap.size + 1 + 1 := by omega
  clear h IH
  go_enter Tryz.func60, Tryz.ntmps60
  go_wp2_with fail
  refine (HI.out _ (H.out.on ?hbb)).mono ?_
  case hbb => exact below_three _ _ _ _
  intro e w' hv
  obtain ⟨rfl, hb'⟩ := valT hv
  exact ⟨rfl, rfl, (below_three _ _ _ _).trans (hb'.mono (by simp; omega))⟩
set_option maxRecDepth 100000 in
set_option maxHeartbeats 400000 in
theorem value_ifN (IH : ∀ w, RnF W w F R M V fv base mem cnt vs → Calls Tryz.prog 60 #[.pointer (some ⟨F, 0, none⟩), .agg #[.int .i64 p, .string s, .int .i64 v', vc', vk']] w (ValP (some none) w)) :
    Calls Tryz.prog 60 #[.pointer (some ⟨F, 0, none⟩), .agg #[.int .i64 7, .string name, .int .i64 v, vc, .slice (some ⟨b, o, none⟩) 3 c]] w (ValP (some none) w) := by
  have H := Lib.hid h
  have HI := Lib.hid IH
  have hb1 : b < w.heap.size + 1 := by omega
  have hb2 : b < w.heap.size + 1 + 1 := by omega
  clear h IH
  go_enter Tryz.func60, Tryz.ntmps60
  go_wp2_with fail
  refine (HI.out _ (H.out.on ?hbb)).mono ?_
  case hbb => exact below_three _ _ _ _
  intro e w1 hv
  obtain ⟨rfl, hb'⟩ := valN hv
  have HB := Lib.hid hb'
  obtain ⟨hc, hf⟩ := bcell hb'
  have hz : w.heap.size + 1 + 1 < w1.heap.size := by have := hb'.size; simp at this; omega
  have hz1 : w.heap.size + 1 < w1.heap.size := by omega
  have hz2 : w.heap.size < w1.heap.size := by omega
  clear hb' hv
  go_wp2_with fail
  refine bodyPost_ret (v := .agg #[.int .i64 0, .bool false]) (by simp [results, Tryz.results60, go_sem, hc, hz1]) rfl (ret_cellR none ?_)
  repeat' (first | exact (below_three _ _ _ _).trans (HB.out.mono (by simp; omega)) | refine Below.setCell ?_ (by simp) _ | refine Below.alloc ?_ (by simp [World.setCell]; omega) _)
set_option maxRecDepth 100000 in
set_option maxHeartbeats 400000 in
theorem value_ifA (x : Int) (hx : (x != 0) = true) (r2 : Option (Option Int))
    (s0 : w.cell? ⟨b, o + 5, none⟩ = some (.int .i64 p2)) (s1 : w.cell? ⟨b, o + 5 + 1, none⟩ = some (.string s2)) (s2' : w.cell? ⟨b, o + 5 + 2, none⟩ = some (.int .i64 v2)) (s3 : w.cell? ⟨b, o + 5 + 3, none⟩ = some vc2) (s4 : w.cell? ⟨b, o + 5 + 4, none⟩ = some vk2)
    (IH : ∀ w, RnF W w F R M V fv base mem cnt vs → Calls Tryz.prog 60 #[.pointer (some ⟨F, 0, none⟩), .agg #[.int .i64 p, .string s, .int .i64 v', vc', vk']] w (ValP (some (some x)) w))
    (IH2 : ∀ w, RnF W w F R M V fv base mem cnt vs → Calls Tryz.prog 60 #[.pointer (some ⟨F, 0, none⟩), .agg #[.int .i64 p2, .string s2, .int .i64 v2, vc2, vk2]] w (ValP r2 w)) :
    Calls Tryz.prog 60 #[.pointer (some ⟨F, 0, none⟩), .agg #[.int .i64 7, .string name, .int .i64 v, vc, .slice (some ⟨b, o, none⟩) 3 c]] w (ValP r2 w) := by
  have H := Lib.hid h
  have HI := Lib.hid IH
  have HI2 := Lib.hid IH2
  have hb1 : b < w.heap.size + 1 := by omega
  have hb2 : b < w.heap.size + 1 + 1 := by omega
  clear h IH IH2
  go_enter Tryz.func60, Tryz.ntmps60
  go_wp2_with fail
  refine (HI.out _ (H.out.on ?hbb)).mono ?_
  case hbb => exact below_three _ _ _ _
  intro e w1 hv
  obtain ⟨rfl, hb'⟩ := valS hv
  have HB : Below w.heap.size w w1 := (below_three _ _ _ _).trans (hb'.mono (by simp; omega))
  obtain ⟨hc, hf⟩ := bcell hb'
  have hz : w.heap.size + 1 + 1 < w1.heap.size := by have := hb'.size; simp at this; omega
  have hz1 : w.heap.size + 1 < w1.heap.size := by omega
  have hz2 : w.heap.size < w1.heap.size := by omega
  have hz3 : b < w1.heap.size := by omega
  have HBh := Lib.hid HB
  clear hb' HB hv
  go_wp2_with fail
  refine (HI2.out _ (H.out.on ?hbb2)).mono ?_
  case hbb2 => exact HBh.out.alloc (Nat.le_of_lt hz2) _
  intro e w2 hv
  cases r2 with
  | none =>
    obtain ⟨rfl, hb'⟩ := valT hv
    exact ⟨rfl, rfl, (HBh.out.alloc (Nat.le_of_lt hz2) _).trans (hb'.mono (by simp; omega))⟩
  | some o2 =>
    obtain ⟨rfl, hb'⟩ : e = .returned (.agg #[.int .i64 (o2.getD 0), .bool o2.isSome]) ∧ _ := hv
    have HB : Below w.heap.size w w2 := (HBh.out.alloc (Nat.le_of_lt hz2) _).trans (hb'.mono (by simp; omega))
    obtain ⟨hc2, hf2⟩ := bcell hb'
    have hy1 : w.heap.size + 1 < w1.heap.size + 1 := by omega
    have hy2 : w.heap.size + 1 < w2.heap.size := by have := hb'.size; simp at this; omega
    have HB2 := Lib.hid HB
    clear hb' HB
    go_wp2_with fail
    refine bodyPost_ret (v := .agg #[.int .i64 (o2.getD 0), .bool o2.isSome]) (by simp [results, Tryz.results60, go_sem, hc2, hc, hz1, hy1]) rfl (ret_cellR o2 ?_)
    repeat' (first | exact HB2.out | refine Below.setCell ?_ (by simp) _ | refine Below.alloc ?_ (by simp [World.setCell]; omega) _)
set_option maxRecDepth 100000 in
set_option maxHeartbeats 400000 in
theorem value_ifB (x : Int) (hx : (x != 0) = false) (r2 : Option (Option Int))
    (s0 : w.cell? ⟨b, o + 10, none⟩ = some (.int .i64 p2)) (s1 : w.cell? ⟨b, o + 10 + 1, none⟩ = some (.string s2)) (s2' : w.cell? ⟨b, o + 10 + 2, none⟩ = some (.int .i64 v2)) (s3 : w.cell? ⟨b, o + 10 + 3, none⟩ = some vc2) (s4 : w.cell? ⟨b, o + 10 + 4, none⟩ = some vk2)
    (IH : ∀ w, RnF W w F R M V fv base mem cnt vs → Calls Tryz.prog 60 #[.pointer (some ⟨F, 0, none⟩), .agg #[.int .i64 p, .string s, .int .i64 v', vc', vk']] w (ValP (some (some x)) w))
    (IH2 : ∀ w, RnF W w F R M V fv base mem cnt vs → Calls Tryz.prog 60 #[.pointer (some ⟨F, 0, none⟩), .agg #[.int .i64 p2, .string s2, .int .i64 v2, vc2, vk2]] w (ValP r2 w)) :
    Calls Tryz.prog 60 #[.pointer (some ⟨F, 0, none⟩), .agg #[.int .i64 7, .string name, .int .i64 v, vc, .slice (some ⟨b, o, none⟩) 3 c]] w (ValP r2 w) := by
  have H := Lib.hid h
  have HI := Lib.hid IH
  have HI2 := Lib.hid IH2
  have hb1 : b < w.heap.size + 1 := by omega
  have hb2 : b < w.heap.size + 1 + 1 := by omega
  clear h IH IH2
  go_enter Tryz.func60, Tryz.ntmps60
  go_wp2_with fail
  refine (HI.out _ (H.out.on ?hbb)).mono ?_
  case hbb => exact below_three _ _ _ _
  intro e w1 hv
  obtain ⟨rfl, hb'⟩ := valS hv
  have HB : Below w.heap.size w w1 := (below_three _ _ _ _).trans (hb'.mono (by simp; omega))
  obtain ⟨hc, hf⟩ := bcell hb'
  have hz : w.heap.size + 1 + 1 < w1.heap.size := by have := hb'.size; simp at this; omega
  have hz1 : w.heap.size + 1 < w1.heap.size := by omega
  have hz2 : w.heap.size < w1.heap.size := by omega
  have hz3 : b < w1.heap.size := by omega
  have HBh := Lib.hid HB
  clear hb' HB hv
  go_wp2_with fail
  refine (HI2.out _ (H.out.on ?hbb2)).mono ?_
  case hbb2 => exact HBh.out.alloc (Nat.le_of_lt hz2) _
  intro e w2 hv
  cases r2 with
  | none =>
    obtain ⟨rfl, hb'⟩ := valT hv
    exact ⟨rfl, rfl, (HBh.out.alloc (Nat.le_of_lt hz2) _).trans (hb'.mono (by simp; omega))⟩
  | some o2 =>
    obtain ⟨rfl, hb'⟩ : e = .returned (.agg #[.int .i64 (o2.getD 0), .bool o2.isSome]) ∧ _ := hv
    have HB : Below w.heap.size w w2 := (HBh.out.alloc (Nat.le_of_lt hz2) _).trans (hb'.mono (by simp; omega))
    obtain ⟨hc2, hf2⟩ := bcell hb'
    have hy1 : w.heap.size + 1 < w1.heap.size + 1 := by omega
    have hy2 : w.heap.size + 1 < w2.heap.size := by have := hb'.size; simp at this; omega
    have HB2 := Lib.hid HB
    clear hb' HB
    go_wp2_with fail
    refine bodyPost_ret (v := .agg #[.int .i64 (o2.getD 0), .bool o2.isSome]) (by simp [results, Tryz.results60, go_sem, hc2, hc, hz1, hy1]) rfl (ret_cellR o2 ?_)
    repeat' (first | exact HB2.out | refine Below.setCell ?_ (by simp) _ | refine Below.alloc ?_ (by simp [World.setCell]; omega) _)
end cond
def offL (l : Nat) (op : Int) : Prop := (l = 1 ∧ op ≠ 5) ∨ (l = 2 ∧ op ≠ 6) ∨ (l = 3 ∧ op ≠ 7) ∨ 4 ≤ l
set_option maxRecDepth 100000 in
set_option maxHeartbeats 400000 in
theorem value_offl (F : Nat) (w : World) (op : Int) (l : Nat) (name : ByteArray) (n : Int) (vc : Value) (A : Option Addr) (c : Nat) (hl : l ≤ 1048576) (h : offL l op) :
    Calls Tryz.prog 60 #[.pointer (some ⟨F, 0, none⟩), .agg #[.int .i64 op, .string name, .int .i64 n, vc, .slice A l c]] w (ValP (some none) w) := by
  have h0 : ((l : Int) == 0) = false := by rw [beq_eq_false_iff_ne]; unfold offL at h; omega
  rcases h with ⟨rfl, h⟩ | ⟨rfl, h⟩ | ⟨rfl, h⟩ | h
  · have h1 : (op == 5) = false := by simp [h]
    clear h
    go_enter Tryz.func60, Tryz.ntmps60
    go_wp2_with fail
    exact bodyPost_ret (v := .agg #[.int .i64 0, .bool false]) (by simp [results, Tryz.results60, go_sem]) rfl (ret_cellR none (below_three _ _ _ _))
  · have h1 : (op == 6) = false := by simp [h]
    clear h
    go_enter Tryz.func60, Tryz.ntmps60
    go_wp2_with fail
    exact bodyPost_ret (v := .agg #[.int .i64 0, .bool false]) (by simp [results, Tryz.results60, go_sem]) rfl (ret_cellR none (below_three _ _ _ _))
  · have h1 : (op == 7) = false := by simp [h]
    clear h
    go_enter Tryz.func60, Tryz.ntmps60
    go_wp2_with fail
    exact bodyPost_ret (v := .agg #[.int .i64 0, .bool false]) (by simp [results, Tryz.results60, go_sem]) rfl (ret_cellR none (below_three _ _ _ _))
  · have h1 : ((l : Int) == 1) = false := by rw [beq_eq_false_iff_ne]; omega
    have h2 : ((l : Int) == 2) = false := by rw [beq_eq_false_iff_ne]; omega
    have h3 : ((l : Int) == 3) = false := by rw [beq_eq_false_iff_ne]; omega
    go_enter Tryz.func60, Tryz.ntmps60
    go_wp2_with fail
    exact bodyPost_ret (v := .agg #[.int .i64 0, .bool false]) (by simp [results, Tryz.results60, go_sem]) rfl (ret_cellR none (below_three _ _ _ _))
end Go.Proofs.YtoaajpppbjaomaaGreatDoor
/- The runner's expressions: every one. -/
namespace Go.Proofs.YtoaajpppbjaomaaGreatDoor
open Go.RowKit

theorem wrap64_I64 (n : Int) : I64 (wrap64 n) := by unfold wrap64 I64; omega
theorem truth_I64 (b : Bool) : I64 (truth b) := by cases b <;> (unfold truth I64; simp)
theorem unop_I64 {s : ByteArray} {a x : Int} (h : unop s a = some x) : I64 x := by
  unfold unop at h
  split at h
  · simp only [Option.some.injEq] at h; subst h; exact wrap64_I64 _
  · split at h
    · simp only [Option.some.injEq] at h; subst h; exact truth_I64 _
    · cases h
theorem quoI_I64 {a b : Int} (ha : I64 a) : I64 (quoI a b) := by
  unfold quoI
  split
  · unfold I64; omega
  · rename_i h
    rw [← tdiv_in ha ⟨fun e => h (.inl e), fun e => h (.inr e)⟩]; exact wrap64_I64 _
theorem remI_I64 {a b : Int} (ha : I64 a) : I64 (remI a b) := by
  unfold remI
  split
  · unfold I64; omega
  · rw [← tmod_in ha]; exact wrap64_I64 _
theorem binop_I64 {s : ByteArray} {a b x : Int} (ha : I64 a) (h : binop s a b = some x) : I64 x := by
  unfold binop at h
  repeat' split at h
  all_goals first
    | (cases h; done)
    | (simp only [Option.some.injEq] at h; subst h; first | exact wrap64_I64 _ | exact truth_I64 _ | (unfold I64; omega))
    | skip
  all_goals (simp only [Option.some.injEq] at h; subst h)
  · rename_i h1; rw [← tdiv_in ha ⟨fun e => h1 (.inl e), fun e => h1 (.inr e)⟩]; exact wrap64_I64 _
  · rw [← tmod_in ha]; exact wrap64_I64 _
theorem value_I64 {W : World} {vs : Vars} {mem : Mem} {base : Nat} (hm : ∀ v, some v ∈ mem → I64 v) (hv : ∀ s v, getv vs s = some v → I64 v) :
    ∀ (n : Nat) (e : XE) (cs : List Value) (x : Int), RepX W n e cs → value vs mem base e = some (some x) → I64 x := by
  intro n
  induction n with
  | zero => intro e cs x h; exact h.elim
  | succ n ih =>
    intro e cs x h hx
    obtain ⟨op, name, v, kids⟩ := e
    obtain ⟨vc, vk, rfl, hvc, i1, i2, i3, hk⟩ := h
    have kid : ∀ a, a ∈ kids → ∀ y, value vs mem base a = some (some y) → I64 y := by
      intro a ha y hy
      obtain ⟨j, hj⟩ := List.getElem?_of_mem ha
      obtain ⟨_, A, c, _, _, _, h4⟩ := hk
      have hlt : j < kids.length := by
        rcases Nat.lt_or_ge j kids.length with h | h
        · exact h
        · rw [List.getElem?_eq_none h] at hj; cases hj
      obtain ⟨b, o, _, _, hL⟩ := h4 (by omega)
      obtain ⟨cs, _, hR, _⟩ := hL j a hj
      exact ih a cs y hR hy
    match kids, kid with
    | [], _ =>
      simp only [value] at hx
      split at hx
      · simp at hx; subst hx; exact i2
      · split at hx
        · simp at hx; exact hv _ _ hx
        · split at hx
          · split at hx
            · simp only [Option.some.injEq] at hx
              exact hm x (by
                rw [List.getD_eq_getElem?_getD] at hx
                cases hg : mem[base + v.toNat]? with
                | none => rw [hg] at hx; cases hx
                | some o => rw [hg] at hx; simp at hx; subst hx; exact List.mem_of_getElem? hg)
            · cases hx
          · cases hx
    | [a], kid =>
      simp only [value] at hx
      split at hx
      · cases hr : value vs mem base a with
        | none => rw [hr] at hx; cases hx
        | some r =>
          rw [hr] at hx
          cases r with
          | none => simp at hx
          | some y => simp at hx; exact unop_I64 hx
      · cases hx
    | [a, b], kid =>
      simp only [value] at hx
      split at hx
      · cases hr : value vs mem base a with
        | none => rw [hr] at hx; cases hx
        | some r =>
          rw [hr] at hx
          cases hr2 : value vs mem base b with
          | none => rw [hr2] at hx; cases hx
          | some r2 =>
            rw [hr2] at hx
            cases r with
            | none => simp at hx
            | some y =>
              cases r2 with
              | none => simp at hx
              | some z => simp at hx; exact binop_I64 (kid a (by simp) y hr) hx
      · cases hx
    | [a, b, c], kid =>
      simp only [value] at hx
      split at hx
      · cases hr : value vs mem base a with
        | none => rw [hr] at hx; cases hx
        | some r =>
          rw [hr] at hx
          cases r with
          | none => simp at hx
          | some y =>
            simp at hx
            split at hx
            · exact kid c (by simp) x hx
            · exact kid b (by simp) x hx
      · cases hx
    | _ :: _ :: _ :: _ :: _, _ => simp [value] at hx

theorem value_any {W : World} {F R M V : Nat} {fv : Value} {base : Nat} {mem : Mem} {cnt : Int} {vs : Vars} :
    ∀ (n : Nat) (e : XE) (cs : List Value) (w : World), RepX W n e cs → RnF W w F R M V fv base mem cnt vs →
      Calls Tryz.prog 60 #[.pointer (some ⟨F, 0, none⟩), .agg cs.toArray] w (ValP (value vs mem base e) w) := by
  intro n
  induction n with
  | zero => intro e cs w h; exact h.elim
  | succ n ih =>
    intro e cs w h hF
    obtain ⟨op, name, v, kids⟩ := e
    obtain ⟨vc, vk, rfl, hvc0, i1, i2, i3, hk⟩ := h
    have hvc := hvc0.one
    obtain ⟨A, c, rfl, hc1, hc2, hc3, hcell⟩ := kid_cells hk hF.below
    match kids, hk, hc1, hc3, hcell with
    | [], _, _, _, _ =>
      by_cases h1 : op = 1
      · subst h1
        have e : value vs mem base (.mk 1 name v []) = some (some v) := by simp [value]
        rw [e]; exact value_int hF name v vc hvc A c
      by_cases h2 : op = 4
      · subst h2
        have e : value vs mem base (.mk 4 name v []) = some (getv vs name) := by simp [value]
        rw [e]; exact value_var hF name v vc hvc A c
      by_cases h3 : op = 16
      · subst h3
        by_cases h4 : 0 ≤ v ∧ v < (mem.length : Int) - base
        · have e : value vs mem base (.mk 16 name v []) = some (mem.getD (base + v.toNat) none) := by simp [value, h4]
          have hlt : base + v.toNat < mem.length := by omega
          rw [e]
          exact value_mem hF name v vc hvc A c h4.1 h4.2 _ (by rw [List.getD_eq_getElem?_getD, List.getElem?_eq_getElem hlt]; rfl)
        · have e : value vs mem base (.mk 16 name v []) = none := by simp [value, h4]
          rw [e]; exact value_memT hF name v vc hvc A c h4
      · have e : value vs mem base (.mk op name v []) = some none := by simp [value, h1, h2, h3]
        rw [e]; exact value_off0 F w op ⟨h1, h2, h3⟩ name v vc hvc A c
    | [a], _, _, _, hcell =>
      by_cases h1 : op = 5
      · subst h1
        obtain ⟨b, o, p, s, v', vc', vk', rfl, hlt, hR, _, _, q0, q1, q2, q3, q4⟩ := hcell 0 a rfl
        simp only [Nat.zero_mul, Nat.add_zero] at q0 q1 q2 q3 q4
        have IH := fun w' hw' => ih a _ w' hR hw'
        have e : value vs mem base (.mk 5 name v [a]) = (value vs mem base a).map fun x => x.bind fun x => unop name x := by simp [value]
        rw [e]
        cases hr : value vs mem base a with
        | none => rw [hr] at IH; exact value_unT hF name v vc b o c p s v' vc' vk' hlt q0 q1 q2 q3 q4 IH
        | some r =>
          rw [hr] at IH
          cases r with
          | none => exact value_unN hF name v vc b o c p s v' vc' vk' hlt q0 q1 q2 q3 q4 IH
          | some x => exact value_unS hF name v vc b o c p s v' vc' vk' hlt q0 q1 q2 q3 q4 x IH
      · have e : value vs mem base (.mk op name v [a]) = some none := by simp [value, h1]
        rw [e]; exact value_offl F w op 1 name v vc A c (by omega) (.inl ⟨rfl, h1⟩)
    | [a, a2], hk, _, _, hcell =>
      by_cases h1 : op = 6
      · subst h1
        obtain ⟨b, o, p, s, v', vc', vk', rfl, hlt, hR, _, _, q0, q1, q2, q3, q4⟩ := hcell 0 a rfl
        obtain ⟨b', o', p2, s2, v2, vc2, vk2, hA, hlt2, hR2, _, _, r0, r1, r2, r3, r4⟩ := hcell 1 a2 rfl
        simp only [Option.some.injEq, Addr.mk.injEq, and_true] at hA
        obtain ⟨rfl, rfl⟩ := hA
        simp only [Nat.zero_mul, Nat.add_zero, Nat.one_mul] at q0 q1 q2 q3 q4 r0 r1 r2 r3 r4
        have IH := fun w' hw' => ih a _ w' hR hw'
        have IH2 := fun w' hw' => ih a2 _ w' hR2 hw'
        have e : value vs mem base (.mk 6 name v [a, a2]) = (value vs mem base a).bind fun x => (value vs mem base a2).map fun y => x.bind fun x => y.bind fun y => binop name x y := by simp [value]
        rw [e]
        cases hr : value vs mem base a with
        | none => rw [hr] at IH; exact value_binT hF name v vc b o c p s v' vc' vk' hlt q0 q1 q2 q3 q4 IH
        | some r =>
          rw [hr] at IH
          exact value_bin2 hF name v vc b o c p s v' vc' vk' p2 s2 v2 vc2 vk2 hlt q0 q1 q2 q3 q4 r0 r1 r2 r3 r4 r (value vs mem base a2)
            (fun x hx => value_I64 hF.memI hF.vsI n a _ x hR (by rw [hr, hx])) (fun x hx => value_I64 hF.memI hF.vsI n a2 _ x hR2 hx) IH IH2
      · have e : value vs mem base (.mk op name v [a, a2]) = some none := by simp [value, h1]
        rw [e]; exact value_offl F w op 2 name v vc A c (by omega) (.inr (.inl ⟨rfl, h1⟩))
    | [a, a2, a3], hk, _, _, hcell =>
      by_cases h1 : op = 7
      · subst h1
        obtain ⟨b, o, p, s, v', vc', vk', rfl, hlt, hR, _, _, q0, q1, q2, q3, q4⟩ := hcell 0 a rfl
        obtain ⟨b', o', p2, s2, v2, vc2, vk2, hA, hlt2, hR2, _, _, r0, r1, r2, r3, r4⟩ := hcell 1 a2 rfl
        simp only [Option.some.injEq, Addr.mk.injEq, and_true] at hA
        obtain ⟨rfl, rfl⟩ := hA
        obtain ⟨b', o', p3, s3, v3, vc3, vk3, hA, hlt3, hR3, _, _, t0, t1, t2, t3, t4⟩ := hcell 2 a3 rfl
        simp only [Option.some.injEq, Addr.mk.injEq, and_true] at hA
        obtain ⟨rfl, rfl⟩ := hA
        simp only [Nat.zero_mul, Nat.add_zero, Nat.one_mul] at q0 q1 q2 q3 q4 r0 r1 r2 r3 r4
        simp only [show 2 * 5 = 10 from rfl] at t0 t1 t2 t3 t4
        have IH := fun w' hw' => ih a _ w' hR hw'
        have IH2 := fun w' hw' => ih a2 _ w' hR2 hw'
        have IH3 := fun w' hw' => ih a3 _ w' hR3 hw'
        have e : value vs mem base (.mk 7 name v [a, a2, a3]) = (value vs mem base a).bind fun x => match x with
            | none => some none
            | some v => if v ≠ 0 then value vs mem base a2 else value vs mem base a3 := by simp [value]; rfl
        rw [e]
        cases hr : value vs mem base a with
        | none => rw [hr] at IH; exact value_ifT hF name v vc b o c p s v' vc' vk' hlt q0 q1 q2 q3 q4 IH
        | some r =>
          rw [hr] at IH
          cases r with
          | none => exact value_ifN hF name v vc b o c p s v' vc' vk' hlt q0 q1 q2 q3 q4 IH
          | some x =>
            by_cases hx : x = 0
            · have e2 : ((some (some x) : Option (Option Int)).bind fun x => match x with
                | none => some none
                | some v => if v ≠ 0 then value vs mem base a2 else value vs mem base a3) = value vs mem base a3 := by simp [hx]
              rw [e2]
              exact value_ifB hF name v vc b o c p s v' vc' vk' p3 s3 v3 vc3 vk3 hlt q0 q1 q2 q3 q4 x (by simp [hx]) _ t0 t1 t2 t3 t4 IH IH3
            · have e2 : ((some (some x) : Option (Option Int)).bind fun x => match x with
                | none => some none
                | some v => if v ≠ 0 then value vs mem base a2 else value vs mem base a3) = value vs mem base a2 := by simp [hx]
              rw [e2]
              exact value_ifA hF name v vc b o c p s v' vc' vk' p2 s2 v2 vc2 vk2 hlt q0 q1 q2 q3 q4 x (by simp [hx]) _ r0 r1 r2 r3 r4 IH IH2
      · have e : value vs mem base (.mk op name v [a, a2, a3]) = some none := by simp [value, h1]
        rw [e]; exact value_offl F w op 3 name v vc A c (by omega) (.inr (.inr (.inl ⟨rfl, h1⟩)))
    | a :: a2 :: a3 :: a4 :: r, hk, _, hc3, _ =>
      have e : value vs mem base (.mk op name v (a :: a2 :: a3 :: a4 :: r)) = some none := by simp [value]
      rw [e]; exact value_offl F w op _ name v vc A c hc3 (.inr (.inr (.inr (by simp))))
end Go.Proofs.YtoaajpppbjaomaaGreatDoor
/- The runner's reset; what a statement leaves. -/
namespace Go.Proofs.YtoaajpppbjaomaaGreatDoor
open Go.RowKit

structure StP (W : World) (F R M V : Nat) (fv : Value) (base : Nat) (r : Bool × St) (w : World) (e : Ending) (w' : World) : Prop where
  keep : Keep [R, M, V] w w'
  yes : r.1 = true → e = .returned (.tuple #[]) ∧ RnF W w' F R M V fv base r.2.mem r.2.cnt r.2.vs
  no : r.1 = false → e = .panicked [trapE] ∧ MemSt W w' R M fv r.2.mem false r.2.cnt
theorem RnF.memSt {W w : World} {F R M V : Nat} {fv : Value} {base : Nat} {mem : Mem} {cnt : Int} {vs : Vars} (h : RnF W w F R M V fv base mem cnt vs) : MemSt W w R M fv mem false cnt :=
  ⟨h.below, h.hR, h.hM, h.geR, h.geM, h.RM, h.mlen⟩
theorem MemSt.later {W w w' : World} {R M : Nat} {fv : Value} {mem : Mem} {tr : Bool} {cnt : Int} (h : MemSt W w R M fv mem tr cnt) (hb : Below w.heap.size w w') : MemSt W w' R M fv mem tr cnt :=
  { h with
    below := h.below.trans (hb.mono h.below.size)
    hR := (hb.block R (lt_of_block h.hR)).trans h.hR
    hM := (hb.block M (lt_of_block h.hM)).trans h.hM }
theorem block_ne {w : World} {a b : Nat} {c : Array Value} {t : TypeId} {z : Nat × Nat} {es : Array MapEntry} {k : Nat} (h : w.heap[a]? = some (.cells c t z)) (h2 : w.heap[b]? = some (.map es k)) : a ≠ b := by
  rintro rfl
  rw [h] at h2; cases h2
theorem RnF.newMem {W w w' : World} {F R M V : Nat} {fv : Value} {base : Nat} {mem mem' : Mem} {cnt : Int} {vs : Vars} (h : RnF W w F R M V fv base mem cnt vs) (hk : Keep [M] w w')
    (hM : w'.heap[M]? = some (.cells (memC mem') 73 (0, 0))) (hl : mem'.length = mem.length) (hi : ∀ v, some v ∈ mem' → I64 v) : RnF W w' F R M V fv base mem' cnt vs :=
  { h with
    below := (h.memSt.on hk hM hl).below
    hF := (hk.block F (lt_of_block h.hF) (by simp [h.FM])).trans h.hF
    hR := (h.memSt.on hk hM hl).hR
    hM := hM
    hV := h.hV.of_block (hk.block V h.hV.lt (by
      obtain ⟨es, clk, h1, _⟩ := h.hV
      have := block_ne h.hM h1
      simp [Ne.symm this]))
    blen := by rw [hl]; exact h.blen
    mlen := by rw [hl]; exact h.mlen
    memI := hi }
theorem setM_I64 {m : Mem} {i : Nat} {x : Int} (h : ∀ v, some v ∈ m → I64 v) (hx : I64 x) : ∀ v, some v ∈ m.set i (some x) → I64 v := by
  intro v hv
  rcases List.mem_or_eq_of_mem_set hv with h1 | h1
  · exact h v h1
  · simp at h1; subst h1; exact hx
theorem anewF_I64 (funs : List FN) : ∀ (n k base : Nat) (mem : Mem), (∀ v, some v ∈ mem → I64 v) → ∀ v, some v ∈ anewF funs n k base mem → I64 v := by
  intro n
  induction n with
  | zero => intro k base mem h; exact h
  | succ n ih =>
    intro k base mem h
    simp only [anewF]
    have h1 : ∀ v, some v ∈ clearM mem base (funs.getD k default).cells.toNat → I64 v := by
      intro v hv
      simp only [clearM, List.mem_append, List.mem_replicate] at hv
      rcases hv with (hv | hv) | hv
      · exact h v (List.mem_of_mem_take hv)
      · exact absurd hv.2 (by simp)
      · exact h v (List.mem_of_mem_drop hv)
    have h2 : ∀ (l : List Int) (m : Mem), (∀ v, some v ∈ m → I64 v) → ∀ v, some v ∈ l.foldl (fun m i => m.set (base + i.toNat) (some 1)) m → I64 v := by
      intro l
      induction l with
      | nil => intro m hm; exact hm
      | cons a r ihl => intro m hm; rw [List.foldl_cons]; exact ihl _ (setM_I64 hm (by unfold I64; omega))
    have h3 : ∀ (l : List PT) (m : Mem), (∀ v, some v ∈ m → I64 v) → ∀ v, some v ∈ l.foldl (fun m p => anewF funs n p.fn.toNat (base + p.at_.toNat) m) m → I64 v := by
      intro l
      induction l with
      | nil => intro m hm; exact hm
      | cons a r ihl => intro m hm; rw [List.foldl_cons]; exact ihl _ (ih _ _ _ hm)
    exact h3 _ _ (h2 _ _ h1)
theorem further_le {len base : Nat} (n : Int) (_h : base ≤ len) : further len base n ≤ len := by unfold further; split <;> omega
/-- a statement, written out -/
structure StmtV where
  name : ByteArray
  (n1 n2 n3 n4 n5 n6 n7 : Value)
section
variable {W w : World} {funs : List FN} {nf : Nat} {F R M V : Nat} {fv : Value} {base : Nat} {mem : Mem} {cnt : Int} {vs : Vars}
set_option maxRecDepth 100000 in
set_option maxHeartbeats 1000000 in
theorem reset_yes (hrep : RepV (RepF W nf) 6 W fv funs) (hr : RightP funs) (h : RnF W w F R M V fv base mem cnt vs) (fn : Nat) (hfn : fn < funs.length) (at_ : Int) (op : Int) (name en : ByteArray) (eo ev : Int) (lN lA lR cN cA cR : Nat) (aN aA aR : Option Addr) (ec ek : Value)
    (h1 : 0 ≤ at_) (h2 : at_ ≤ (mem.length : Int) - base) (h3 : (funs.getD fn default).cells ≤ (mem.length : Int) - further mem.length base at_) :
    Calls Tryz.prog 63 #[.pointer (some ⟨F, 0, none⟩), .agg #[.int .i64 op, .string name, .int .i64 at_, .int .i64 fn, .slice aN lN cN, .int .i64 eo, .string en, .int .i64 ev, ec, ek, .slice aA lA cA, .slice aR lR cR]] w
      (StP W F R M V fv base (true, { mem := anewF funs funs.length fn (further mem.length base at_) mem, cnt := cnt, vs := vs }) w) := by
  generalize hf : funs.getD fn default = f at *
  obtain ⟨b, o, c, Ap, cp, Ar, cr, Af, cf, Aq, cq, Ab, cb, rfl, hfl, hbW, k0, k1, k2, k3, k4, k5, _, _, r3, r4, _⟩ := fn_cells hrep h.below hfn hf
  have hcl := hr.cells fn hfn
  rw [hf] at hcl
  have c0 := h.c0
  have c1 := h.c1
  have r0 := h.r0
  have r1 := h.r1
  have hbl := h.blen
  have hml := h.mlen
  have hFlt := lt_of_block h.hF
  have hRlt := lt_of_block h.hR
  have hbw : b < w.heap.size := Nat.lt_of_lt_of_le hbW h.below.size
  have hnb := further_le at_ hbl
  have H := Lib.hid h
  have d1 : decide (0 ≤ at_) = true := by simpa using h1
  have d2 : decide (at_ ≤ (mem.length : Int) - base) = true := by simpa using h2
  have d3 : decide (f.cells ≤ (mem.length : Int) - (further mem.length base at_ : Nat)) = true := by simpa using h3
  generalize hnb' : further mem.length base at_ = nb at *
  have HNB := Lib.hid hnb'
  have HF := Lib.hid hf
  clear h hf hnb'
  go_enter Tryz.func63, Tryz.ntmps63
  go_wp2_with fail
  refine (further_any (H.out.on ((Below.refl _ _).alloc (Nat.le_refl _) _)) at_).mono ?_
  rintro e w' ⟨rfl, kd, rfl⟩
  rw [HNB.out]
  go_wp2_with fail
  refine region_qtail 46 (by kernel_rfl) (by kernel_rfl) ?_
  simp only [List.take_succ_cons, List.take_zero, List.drop_succ_cons, List.drop_zero]
  repeat (go_big_quiet_step (fail))
  refine wpQuiet_nil ?_
  intro k
  go_wp2_with fail
  refine (must_true _).mono ?_
  rintro e w' ⟨rfl, rfl⟩
  go_wp2_with fail
  refine region_qtail 7 (by kernel_rfl) (by kernel_rfl) ?_
  simp only [List.take_succ_cons, List.take_zero, List.drop_succ_cons, List.drop_zero]
  repeat (go_big_quiet_step (fail))
  refine wpQuiet_nil ?_
  intro k2
  go_wp2_with fail
  have hfit : nb + f.cells.toNat ≤ mem.length := by omega
  refine (anew_any hrep hr funs.length fn nb mem _ hfn hfn (by rw [HF.out]; exact hfit) (H.out.memSt.later (w' := _) ?hbx)).mono ?_
  case hbx => repeat (first | exact Below.refl _ _ | refine Below.drewN' ?_ _ | refine Below.alloc ?_ (Nat.le_refl _) _ | refine Below.drew ?_)
  rintro e w2 ⟨rfl, hm2, hk2⟩
  go_wp2_with fail
  go_end0
  have hk : Keep [M] w w2 := (Keep.of_below (by repeat (first | exact Below.refl _ _ | refine Below.drewN' ?_ _ | refine Below.alloc ?_ (Nat.le_refl _) _ | refine Below.drew ?_))).trans hk2
  refine ⟨hk.mono (by simp), fun _ => ⟨rfl, ?_⟩, fun h => by cases h⟩
  exact H.out.newMem hk hm2 (anewF_length funs hr _ _ _ _ hfn (by rw [HF.out]; exact hfit)) (anewF_I64 funs _ _ _ _ H.out.memI)
set_option maxRecDepth 100000 in
set_option maxHeartbeats 1000000 in
theorem reset_no (hrep : RepV (RepF W nf) 6 W fv funs) (hr : RightP funs) (h : RnF W w F R M V fv base mem cnt vs) (fn : Nat) (hfn : fn < funs.length) (at_ : Int) (op : Int) (name en : ByteArray) (eo ev : Int) (lN lA lR cN cA cR : Nat) (aN aA aR : Option Addr) (ec ek : Value)
    (h1 : ¬ (0 ≤ at_ ∧ at_ ≤ (mem.length : Int) - base ∧ (funs.getD fn default).cells ≤ (mem.length : Int) - further mem.length base at_)) :
    Calls Tryz.prog 63 #[.pointer (some ⟨F, 0, none⟩), .agg #[.int .i64 op, .string name, .int .i64 at_, .int .i64 fn, .slice aN lN cN, .int .i64 eo, .string en, .int .i64 ev, ec, ek, .slice aA lA cA, .slice aR lR cR]] w
      (StP W F R M V fv base (false, { mem := mem, cnt := cnt, vs := vs }) w) := by
  generalize hf : funs.getD fn default = f at *
  obtain ⟨b, o, c, Ap, cp, Ar, cr, Af, cf, Aq, cq, Ab, cb, rfl, hfl, hbW, k0, k1, k2, k3, k4, k5, _, _, r3, r4, _⟩ := fn_cells hrep h.below hfn hf
  have hcl := hr.cells fn hfn
  rw [hf] at hcl
  have c0 := h.c0
  have c1 := h.c1
  have r0 := h.r0
  have r1 := h.r1
  have hbl := h.blen
  have hml := h.mlen
  have hFlt := lt_of_block h.hF
  have hRlt := lt_of_block h.hR
  have hbw : b < w.heap.size := Nat.lt_of_lt_of_le hbW h.below.size
  have hnb := further_le at_ hbl
  have H := Lib.hid h
  generalize hnb' : further mem.length base at_ = nb at *
  have HNB := Lib.hid hnb'
  clear h hf hnb'
  by_cases g1 : 0 ≤ at_
  · have d1 : decide (0 ≤ at_) = true := by simpa using g1
    by_cases g2 : at_ ≤ (mem.length : Int) - base
    · have d2 : decide (at_ ≤ (mem.length : Int) - base) = true := by simpa using g2
      have d3 : decide (f.cells ≤ (mem.length : Int) - (nb : Int)) = false := by simp; omega
      clear h1
      go_enter Tryz.func63, Tryz.ntmps63
      go_wp2_with fail
      refine (further_any (H.out.on ((Below.refl _ _).alloc (Nat.le_refl _) _)) at_).mono ?_
      rintro e w' ⟨rfl, kd, rfl⟩
      rw [HNB.out]
      go_wp2_with fail
      refine region_qtail 46 (by kernel_rfl) (by kernel_rfl) ?_
      simp only [List.take_succ_cons, List.take_zero, List.drop_succ_cons, List.drop_zero]
      repeat (go_big_quiet_step (fail))
      refine wpQuiet_nil ?_
      intro k
      go_wp2_with fail
      refine (must_false _).mono ?_
      rintro e w2 ⟨rfl, hb2⟩
      have hb : Below w.heap.size w w2 := (Below.drewN' ((Below.refl _ _).alloc (Nat.le_refl _) _) _).trans (hb2.mono (B' := w.heap.size) (by simp [World.drewN]))
      exact ⟨rfl, ⟨Keep.of_below hb, (fun h => by cases h), fun _ => ⟨rfl, H.out.memSt.later hb⟩⟩⟩
    · have d2 : decide (at_ ≤ (mem.length : Int) - base) = false := by simp; omega
      clear h1
      go_enter Tryz.func63, Tryz.ntmps63
      go_wp2_with fail
      refine (further_any (H.out.on ((Below.refl _ _).alloc (Nat.le_refl _) _)) at_).mono ?_
      rintro e w' ⟨rfl, kd, rfl⟩
      rw [HNB.out]
      go_wp2_with fail
      refine region_qtail 46 (by kernel_rfl) (by kernel_rfl) ?_
      simp only [List.take_succ_cons, List.take_zero, List.drop_succ_cons, List.drop_zero]
      repeat (go_big_quiet_step (fail))
      refine wpQuiet_nil ?_
      intro k
      go_wp2_with fail
      refine (must_false _).mono ?_
      rintro e w2 ⟨rfl, hb2⟩
      have hb : Below w.heap.size w w2 := (Below.drewN' ((Below.refl _ _).alloc (Nat.le_refl _) _) _).trans (hb2.mono (B' := w.heap.size) (by simp [World.drewN]))
      exact ⟨rfl, ⟨Keep.of_below hb, (fun h => by cases h), fun _ => ⟨rfl, H.out.memSt.later hb⟩⟩⟩
  · have d1 : decide (0 ≤ at_) = false := by simpa using g1
    clear h1
    go_enter Tryz.func63, Tryz.ntmps63
    go_wp2_with fail
    refine (further_any (H.out.on ((Below.refl _ _).alloc (Nat.le_refl _) _)) at_).mono ?_
    rintro e w' ⟨rfl, kd, rfl⟩
    rw [HNB.out]
    go_wp2_with fail
    refine region_qtail 46 (by kernel_rfl) (by kernel_rfl) ?_
    simp only [List.take_succ_cons, List.take_zero, List.drop_succ_cons, List.drop_zero]
    repeat (go_big_quiet_step (fail))
    refine wpQuiet_nil ?_
    intro k
    go_wp2_with fail
    refine (must_false _).mono ?_
    rintro e w2 ⟨rfl, hb2⟩
    have hb : Below w.heap.size w w2 := (Below.drewN' ((Below.refl _ _).alloc (Nat.le_refl _) _) _).trans (hb2.mono (B' := w.heap.size) (by simp [World.drewN]))
    exact ⟨rfl, ⟨Keep.of_below hb, (fun h => by cases h), fun _ => ⟨rfl, H.out.memSt.later hb⟩⟩⟩
end
end Go.Proofs.YtoaajpppbjaomaaGreatDoor
/- The runner's search for an arm. -/
namespace Go.Proofs.YtoaajpppbjaomaaGreatDoor
open Go.RowKit
theorem arm1_any (n : Int) (A : Option Addr) (l c : Nat) (cb : Nat) (v : Int) (w : World) (hlt : cb < w.heap.size) (hc : w.cell? ⟨cb, 0, none⟩ = some (.int .i64 v)) :
    Calls Tryz.prog 65 #[.agg #[.int .i64 n, .slice A l c], .pointer (some ⟨cb, 0, none⟩)] w (RetB (.bool (n == v)) w) := by
  go_enter Tryz.func65, Tryz.ntmps65
  go_wp2
  go_ret
  exact ⟨rfl, (Below.refl _ _).alloc (Nat.le_refl _) _⟩
/-- where the first arm of a value stands; -1: there is none -/
def armIdx : List FA → Int → Int
  | [], _ => -1
  | a :: r, v => if a.n = v then 0 else if armIdx r v < 0 then -1 else armIdx r v + 1
theorem armIdx_ge (l : List FA) (v : Int) : -1 ≤ armIdx l v := by
  induction l with
  | nil => simp [armIdx]
  | cons a r ih => simp only [armIdx]; split; · omega
                   · split <;> omega
/-- the first j arms are none of them -/
def NoArm (l : List FA) (v : Int) (j : Nat) : Prop := ∀ i a, i < j → l[i]? = some a → a.n ≠ v
theorem armIdx_at (v : Int) : ∀ (l : List FA) (j : Nat) (a : FA), NoArm l v j → l[j]? = some a → a.n = v → armIdx l v = j
  | [], j, a, _, h, _ => by simp at h
  | x :: r, 0, a, _, h, hv => by simp at h; subst h; simp [armIdx, hv]
  | x :: r, j + 1, a, hn, h, hv => by
    have h0 := hn 0 x (by omega) rfl
    have ih := armIdx_at v r j a (fun i b hi hb => hn (i + 1) b (by omega) (by simpa using hb)) (by simpa using h) hv
    simp only [armIdx]
    rw [if_neg h0, ih, if_neg (by omega)]
    omega
theorem armIdx_none (v : Int) : ∀ (l : List FA), NoArm l v l.length → armIdx l v = -1
  | [], _ => rfl
  | x :: r, hn => by
    have h0 := hn 0 x (by simp) rfl
    have ih := armIdx_none v r (fun i b hi hb => hn (i + 1) b (by simp; omega) (by simpa using hb))
    simp only [armIdx]
    rw [if_neg h0, ih, if_pos (by omega)]
theorem doAs_none (I : Inst) (funs : List FN) (base : Nat) (v : Int) : ∀ (l : List FA) (st : St), armIdx l v < 0 → doAs I funs base l v st = (true, st)
  | [], st, _ => by simp [doAs]
  | x :: r, st, h => by
    simp only [armIdx] at h
    by_cases h0 : x.n = v
    · rw [if_pos h0] at h; omega
    · rw [if_neg h0] at h
      have : armIdx r v < 0 := by
        by_cases h1 : armIdx r v < 0
        · exact h1
        · rw [if_neg h1] at h; omega
      simp only [doAs, if_neg h0]
      exact doAs_none I funs base v r st this
theorem doAs_some (I : Inst) (funs : List FN) (base : Nat) (v : Int) : ∀ (l : List FA) (st : St), 0 ≤ armIdx l v → ∃ a, l[(armIdx l v).toNat]? = some a ∧ doAs I funs base l v st = doL I funs base a.body st
  | [], st, h => by simp [armIdx] at h
  | x :: r, st, h => by
    simp only [armIdx] at h ⊢
    by_cases h0 : x.n = v
    · simp only [if_pos h0]
      refine ⟨x, rfl, ?_⟩
      simp only [doAs, if_pos h0]
      cases x; rfl
    · simp only [if_neg h0] at h ⊢
      by_cases h1 : armIdx r v < 0
      · rw [if_pos h1] at h; omega
      · rw [if_neg h1]
        obtain ⟨a, ha, hd⟩ := doAs_some I funs base v r st (by omega)
        refine ⟨a, ?_, by simp only [doAs, if_neg h0]; exact hd⟩
        have e : (armIdx r v + 1).toNat = (armIdx r v).toNat + 1 := by omega
        rw [e]; simpa using ha
def IdxRel (l : List FA) (v : Int) (w : World) (i : Value) (wr : World) : Prop := ∃ j : Nat, j ≤ l.length ∧ i = .int .i64 j ∧ NoArm l v j ∧ Below w.heap.size w wr
set_option maxRecDepth 100000 in
set_option maxHeartbeats 400000 in
theorem idxArm_any {W : World} {R : FS → List Value → Prop} (A : Option Addr) (l : List FA) (c cb : Nat) (v : Int) (w : World) (hW : Below W.heap.size W w) (hrep : RepV (RepA R W) 2 W (.slice A l.length c) l) (hlt : cb < w.heap.size)
    (hc : w.cell? ⟨cb, 0, none⟩ = some (.int .i64 v)) :
    Calls Tryz.prog 64 #[.slice A l.length c, .func (.func 65) #[] #[.pointer (some ⟨cb, 0, none⟩)]] w (RetB (.int .i64 (armIdx l v)) w) := by
  have hll := hrep.1
  have HREP := Lib.hid hrep
  clear hrep
  go_enter Tryz.func64, Tryz.ntmps64
  go_wp2_with fail
  go_loopw [8] (fun i wr => IdxRel l v w i wr) (fun i _ => l.length - (intOf i).toNat)
  case atStart => exact ⟨0, Nat.zero_le _, rfl, fun i a hi => by omega, Below.refl _ _⟩
  case round =>
    obtain ⟨j, hj, rfl, hn, hb⟩ := hrel
    by_cases hj2 : j < l.length
    · obtain ⟨_, _, he, _, _, _, hget⟩ := HREP.out.get (hW.trans (hb.mono hW.size))
      obtain ⟨bF, oF, cs, hAf, hbF, _, hRI, hAt⟩ := hget j _ (List.getElem?_eq_getElem hj2)
      obtain ⟨vb, rfl, _, hvb⟩ := hRI
      obtain ⟨A2, c2, rfl, _⟩ := hvb.sl
      have h0 : wr.cell? ⟨bF, oF + j * 2, none⟩ = some (.int .i64 l[j].n) := hAt 0 _ rfl
      have h1 : wr.cell? ⟨bF, oF + j * 2 + 1, none⟩ = some (.slice A2 l[j].body.length c2) := hAt 1 _ rfl
      injection he with he1 he2 he3
      subst he1
      subst hAf
      have hcr : wr.cell? ⟨cb, 0, none⟩ = some (.int .i64 v) := (hb.cell (p := ⟨cb, 0, none⟩) hlt).trans hc
      have hltr : cb < wr.heap.size := Nat.lt_of_lt_of_le hlt hb.size
      have HB := Lib.hid hb
      have HN := Lib.hid hn
      have HG := Lib.hid (List.getElem?_eq_getElem hj2)
      clear hget hAt he2 he3 hvb hb hn
      generalize hnj : l[j].n = nj at *
      have HE := Lib.hid hnj
      clear hnj
      go_wp2_with fail
      refine (arm1_any _ _ _ _ _ _ _ hltr hcr).mono ?_
      rintro e w2 ⟨rfl, hb2⟩
      have HB2 := Lib.hid hb2
      clear hb2
      go_wp2_with fail
      · have ht : (nj == v) = true := by assumption
        go_ret
        refine ⟨?_, HB.out.trans (HB2.out.mono HB.out.size)⟩
        have : l[j].n = v := by rw [HE.out]; simpa using ht
        rw [armIdx_at v l j _ HN.out HG.out this]; rfl
      · have ht : (nj == v) = false := by assumption
        refine ⟨⟨j + 1, by omega, by go_num, fun i a hi ha => ?_, HB.out.trans (HB2.out.mono HB.out.size)⟩, by simp [intOf]; omega⟩
        rcases Nat.lt_or_ge i j with h | h
        · exact HN.out i a h ha
        · obtain rfl : i = j := by omega
          rw [HG.out] at ha
          simp only [Option.some.injEq] at ha
          rw [← ha, HE.out]
          simpa using ht
    · obtain rfl : j = l.length := by omega
      have HB := Lib.hid hb
      have HN := Lib.hid (armIdx_none v l hn)
      clear hb hn
      go_wp2_with fail
      go_ret
      exact ⟨by rw [HN.out]; rfl, HB.out⟩
end Go.Proofs.YtoaajpppbjaomaaGreatDoor
