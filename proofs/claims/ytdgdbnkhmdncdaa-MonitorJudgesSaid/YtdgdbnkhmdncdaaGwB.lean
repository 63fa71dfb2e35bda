/- Regions: one operation at a time; a region that draws its order: what only reads may be taken first, wherever it stands. -/
import Derived.Test.YtdgdbnkhmdncdaaGwA
set_option linter.unusedSectionVars false
set_option linter.unusedSimpArgs false
set_option linter.unusedVariables false
namespace Go.Gw
variable [Env]
section
variable {P : Program} {f : FuncId} {n : Nat} {l : Slots} {σ : Heap} {k : List Item} {Φ : Value → Heap → Prop}

/-- An operation that leaves the world alone: its value. -/
structure QOp (P : Program) (n : Nat) (o : Op) (ty : TypeId) (l : Slots) (σ : Heap) (v : Value) : Prop where
  run : ∀ a w, Fr n l a → HSat w σ → ∀ dst pos af g, (execOp a.eval ⟨dst, o, ty, pos, af, g⟩).run P w = .ok (.value v) w
/-- An operation that may turn the world: its value, and the ghost heap behind it. -/
def upon (P : Program) (K : Value → Heap → Prop) : Result Next → Prop
  | .ok (.value v) w' => ∃ σ', Sat w' σ' ∧ K v σ'
  | .ok .skip w' => ∃ σ', Sat w' σ' ∧ K undef σ'
  | .ok (.enter g args) w' => Calls P g args w' (Ret K)
  | _ => False
structure EOp (P : Program) (n : Nat) (o : Op) (ty : TypeId) (l : Slots) (σ : Heap) (K : Value → Heap → Prop) : Prop where
  run : ∀ a w, Fr n l a → Sat w σ → ∀ dst pos af g, upon P K ((execOp a.eval ⟨dst, o, ty, pos, af, g⟩).run P w)

theorem QOp.e {o : Op} {ty : TypeId} {v : Value} {K : Value → Heap → Prop} (h : QOp P n o ty l σ v) (hk : K v σ) : EOp P n o ty l σ K :=
  .mk fun a w ha hw dst pos af g => by rw [h.run a w ha hw.heap dst pos af g]; exact ⟨σ, hw, hk⟩

def ins (dst : Option Tmp) (v : Value) (l : Slots) : Slots := match dst with | some d => (d, v) :: l | none => l
def dstOk (n : Nat) (dst : Option Tmp) : Bool := match dst with | some d => decide (d < n) | none => true
theorem Fr.ins {n : Nat} {l : Slots} {a : Act} (h : Fr n l a) {dst : Option Tmp} (v : Value) (hd : dstOk n dst = true) : Fr n (Gw.ins dst v l) (a.put dst v) := by
  cases dst with
  | none => exact h
  | some d => exact h.put (by simpa [dstOk] using hd)

theorem EOp.wp {o : Oper} {K : Value → Heap → Prop} {a : Act} {w : World} {Q : Exit → Act → World → Prop} {next : Act → World → Prop} (h : EOp P n o.op o.type l σ K) (ha : Fr n l a) (hw : Sat w σ)
    (hn : ∀ v σ' w', K v σ' → Sat w' σ' → next (a.put o.dst v) w') : o.wp P a w next Q := by
  have := h.run a w ha hw o.dst o.pos o.after o.guard
  unfold Oper.wp
  change upon P K ((execOp a.eval o).run P w) at this
  revert this
  generalize (execOp a.eval o).run P w = r
  intro h
  cases r with
  | ok x w' =>
    cases x <;> simp only [upon] at h <;> simp only [Oper.upon]
    case value v => obtain ⟨σ', h1, h2⟩ := h; exact hn v σ' w' h2 h1
    case skip => obtain ⟨σ', h1, h2⟩ := h; exact hn undef σ' w' h2 h1
    case enter g args =>
      refine Calls.mono h fun e w'' he => ?_
      obtain ⟨v, σ', rfl, h1, h2⟩ := he
      exact hn v σ' w'' h2 h1
  | halt x w' => simp only [upon] at h

/-! ### A region in the text's order -/
/-- What is left of a region. -/
def Reg (P : Program) (f : FuncId) (n : Nat) (ops : Array Oper) (todo : List Oper) (l : Slots) (σ : Heap) (k : List Item) (Φ : Value → Heap → Prop) : Prop :=
  ∀ a w, Fr n l a → Sat w σ → wpList P ops (Qk P f k (Ret Φ)) todo a w

theorem St.region {id : Nat} {ops : Array Oper} {todo : List Oper} (ht : ops.toList = todo) (h : Reg P f n ops todo l σ k Φ) : St P f n l σ (.code (.region id ops false) :: k) Φ :=
  fun a w ha hw => Goes.of_wp (wp_region_list (by rw [ht]; exact h a w ha hw))
theorem Reg.done {ops : Array Oper} (h : St P f n l σ k Φ) : Reg P f n ops [] l σ k Φ := fun a w ha hw => wpList_nil (h a w ha hw)

theorem wanted_none {ops : Array Oper} {o : Oper} {a : Act} (hg : o.guard = none) : Region.wanted o (yielded ops a.tmps) = true := by simp [Region.wanted, hg]
theorem wanted_some {ops : Array Oper} {o : Oper} {a : Act} {j d : Nat} {want b : Bool} (hg : o.guard = some (j, want)) (hd : (ops[j]?).bind (·.dst) = some d) (ha : Fr n l a) (hl : lk l d = some (.bool b)) :
    Region.wanted o (yielded ops a.tmps) = (b == want) := by
  have := ha.get d _ hl
  simp [Region.wanted, hg, yielded, hd, this]

/-- The guard's word on an operation, by the slots. -/
def wants (ops : Array Oper) (l : Slots) (o : Oper) : Option Bool :=
  match o.guard with
  | none => some true
  | some (j, want) => match (ops[j]?).bind (·.dst) with
    | none => none
    | some d => match lk l d with
      | some (.bool b) => some (b == want)
      | some _ => some false
      | none => none
theorem wants_spec {ops : Array Oper} {o : Oper} {a : Act} {t : Bool} (ha : Fr n l a) (h : wants ops l o = some t) : Region.wanted o (yielded ops a.tmps) = t := by
  unfold wants at h
  split at h
  · rename_i hg; cases h; exact wanted_none hg
  · rename_i j want hg
    split at h
    · cases h
    · rename_i d hd
      split at h
      · rename_i b hl; cases h; exact wanted_some hg hd ha hl
      · rename_i v hne hl
        cases h
        have := ha.get d _ hl
        have hy : yielded ops a.tmps j = none := by
          cases v <;> first | exact absurd rfl (hne _) | simp [yielded, hd, this]
        simp [Region.wanted, hg, hy]
      · cases h

theorem Reg.e {ops : Array Oper} {o : Oper} {rest : List Oper} {K : Value → Heap → Prop} (hg : wants ops l o = some true) (hd : dstOk n o.dst = true) (h : EOp P n o.op o.type l σ K)
    (hn : ∀ v σ', K v σ' → Reg P f n ops rest (ins o.dst v l) σ' k Φ) : Reg P f n ops (o :: rest) l σ k Φ := by
  intro a w ha hw
  unfold wpList
  rw [if_pos (wants_spec ha hg)]
  exact .inl (h.wp ha hw fun v σ' w' hk hs => hn v σ' hk _ w' (ha.ins v hd) hs)
/-- An operation whose value goes to a slot. -/
theorem Reg.x {ops : Array Oper} {o : Oper} {rest : List Oper} {d : Nat} (hg : wants ops l o = some true) (hdst : o.dst = some d) (hd : Nat.blt d n = true) (h : EOp P n o.op o.type l σ (fun v σ' => Reg P f n ops rest ((d, v) :: l) σ' k Φ)) : Reg P f n ops (o :: rest) l σ k Φ :=
  Reg.e hg (by rw [hdst]; simpa [dstOk] using hd) h fun v σ' hk => by rw [hdst]; exact hk
/-- An operation without one. -/
theorem Reg.no {ops : Array Oper} {o : Oper} {rest : List Oper} (hg : wants ops l o = some true) (hdst : o.dst = none) (h : EOp P n o.op o.type l σ (fun _ σ' => Reg P f n ops rest l σ' k Φ)) : Reg P f n ops (o :: rest) l σ k Φ :=
  Reg.e hg (by rw [hdst]; rfl) h fun v σ' hk => by rw [hdst]; exact hk
theorem Reg.q {ops : Array Oper} {o : Oper} {rest : List Oper} {v : Value} {d : Nat} (hg : wants ops l o = some true) (hdst : o.dst = some d) (hd : Nat.blt d n = true) (h : QOp P n o.op o.type l σ v)
    (hn : Reg P f n ops rest ((d, v) :: l) σ k Φ) : Reg P f n ops (o :: rest) l σ k Φ := Reg.x hg hdst hd (h.e hn)
theorem Reg.skip {ops : Array Oper} {o : Oper} {rest : List Oper} {d : Nat} (hg : wants ops l o = some false) (hdst : o.dst = some d) (hd : Nat.blt d n = true)
    (hn : Reg P f n ops rest ((d, undef) :: l) σ k Φ) : Reg P f n ops (o :: rest) l σ k Φ := by
  intro a w ha hw
  unfold wpList
  rw [if_neg (by rw [wants_spec ha hg]; simp), hdst]
  exact hn _ w (ha.put (by simpa using hd)) hw
theorem Reg.joinv {ops : Array Oper} {todo : List Oper} (d : Nat) (v : Value) (j : Nat) (ks : List Nat) (h : Reg P f n ops (todo.drop j) ((d, v) :: keep ks l) σ k Φ → Reg P f n ops todo l σ k Φ) (hk : Reg P f n ops (todo.drop j) ((d, v) :: keep ks l) σ k Φ) : Reg P f n ops todo l σ k Φ := h hk
theorem Reg.meet {ops : Array Oper} {todo : List Oper} {d : Nat} {b c : Bool} {m : Slots} (j : Nat) (ks : List Nat) (hk : Reg P f n ops todo ((d, .bool c) :: m) σ k Φ) (hv : lk l d = some (.bool b)) (he : b = c) (hj : keep ks (l.drop j) = m) (ha : apartB (l.take j) m = true) : Reg P f n ops todo l σ k Φ :=
  fun a w hf hw => hk a w (hf.sub (SubL.meet j ks hv he hj ha)) hw
/-- A bool in a slot, both ways. -/
theorem Reg.split {ops : Array Oper} {todo : List Oper} {d : Nat} {c : Bool} (hl : lk l d = some (.bool c)) (h1 : c = true → Reg P f n ops todo ((d, .bool true) :: l) σ k Φ) (h2 : c = false → Reg P f n ops todo ((d, .bool false) :: l) σ k Φ) : Reg P f n ops todo l σ k Φ := by
  intro a w ha hw
  cases c with
  | true => exact h1 rfl a w (ha.sub (SubL.cons hl (SubL.rfl' l))) hw
  | false => exact h2 rfl a w (ha.sub (SubL.cons hl (SubL.rfl' l))) hw
theorem Reg.conv {ops : Array Oper} {todo : List Oper} {m : Slots} {τ : Heap} (hl : SubL m l) (hs : Sub τ σ) (h : Reg P f n ops todo m τ k Φ) : Reg P f n ops todo l σ k Φ := fun a w ha hw => h a w (ha.sub hl) (hw.sub hs)

/-! ### A region that draws its order -/
def closed (ops : Array Oper) (ls : Array Bool) : Prop := ∀ j oj, ops[j]? = some oj → ls.getD j false = true → ∀ e ∈ oj.after, Region.binds .any e = true → ls.getD e.on false = true

/-- Does the operation j wait for i, directly or through others? -/
def reach (ops : Array Oper) : Nat → Nat → Nat → Bool
  | 0, _, _ => false
  | m + 1, i, j => match ops[j]? with
    | none => false
    | some oj => oj.after.any fun e => Region.binds .any e && (e.on == i || reach ops m i e.on)

theorem reach_spec {ops : Array Oper} {ls : Array Bool} (hc : closed ops ls) (i : Nat) : ∀ (m j : Nat) (oj : Oper), ops[j]? = some oj → (∀ e ∈ oj.after, Region.binds .any e = true → ls.getD e.on false = true) →
    reach ops m i j = true → ls.getD i false = true := by
  intro m
  induction m with
  | zero => intro j oj _ _ h; cases h
  | succ m ih =>
    intro j oj hj hall h
    simp only [reach, hj] at h
    obtain ⟨e, he, hb⟩ := Array.any_eq_true'.1 h
    simp only [Bool.and_eq_true, Bool.or_eq_true, beq_iff_eq] at hb
    obtain ⟨hb1, hb2⟩ := hb
    have hon := hall e he hb1
    rcases hb2 with hb2 | hb2
    · rw [← hb2]; exact hon
    · cases ho : ops[e.on]? with
      | none =>
        cases m with
        | zero => cases hb2
        | succ m => simp [reach, ho] at hb2
      | some oe => exact ih e.on oe ho (hc e.on oe ho hon) hb2

theorem closed.set {ops : Array Oper} {ls : Array Bool} {i : Nat} (hc : closed ops ls) (hi : i ∈ Region.ready .any ops ls) : closed ops (ls.setIfInBounds i true) := by
  obtain ⟨_, oi, hoi, hall⟩ := mem_ready.1 hi
  intro j oj hj hl e he hb
  by_cases hij : i = j
  · subst hij
    have : oj = oi := Option.some.inj (hj.symm.trans hoi)
    subst this
    exact getD_set_true (hall e he hb)
  · rw [getD_set_ne false hij] at hl
    exact getD_set_true (hc j oj hj hl e he hb)

/-- Whatever order is picked from here on; an operation of 'pres' leaves a world of the class 'C'. -/
def AnyP (P : Program) (ops : Array Oper) (pres : Nat → Bool) (C : World → Prop) (Q : Exit → Act → World → Prop) : Nat → Array Bool → Act → World → Prop
  | 0, ls, a, w => Region.ready .any ops ls = [] ∧ Q .normal a w
  | m + 1, ls, a, w => (Region.ready .any ops ls = [] → Q .normal a w) ∧
    ∀ i ∈ Region.ready .any ops ls, wpOp P ops Q i (fun a' w' => (pres i = true → C w → C w') ∧ AnyP P ops pres C Q m (ls.setIfInBounds i true) a' w') a w

variable {ops : Array Oper} {pres : Nat → Bool} {C : World → Prop} {Q : Exit → Act → World → Prop}

theorem AnyP.any : ∀ (m : Nat) (ls : Array Bool) (a : Act) (w : World), AnyP P ops pres C Q m ls a w → wpAny P .any ops Q m ls a w
  | 0, _, _, _, h => h
  | m + 1, _, _, _, h => ⟨h.1, fun i hi => wpOp_mono (fun _ _ hh => AnyP.any m _ _ _ hh.2) (h.2 i hi)⟩

/-- In every world of the class the operation yields this value, and leaves the world alone. -/
def YieldsC (P : Program) (ops : Array Oper) (C : World → Prop) (o : Oper) (v : Value) (a : Act) : Prop :=
  (Region.wanted o (yielded ops a.tmps) = true ∧ ∀ w, C w → (execOp a.eval o).run P w = .ok (.value v) w) ∨ (Region.wanted o (yielded ops a.tmps) = false ∧ v = undef)

theorem YieldsC.wpOp {i : Nat} {o : Oper} {v : Value} {a : Act} (hi : ops[i]? = some o) (hy : YieldsC P ops C o v a) {K : Act → World → Prop} {w : World} (hC : C w) (h : K (a.put o.dst v) w) : wpOp P ops Q i K a w := by
  unfold Go.wpOp
  simp only [hi]
  rcases hy with ⟨hw, hv⟩ | ⟨hw, rfl⟩
  · simp only [hw, if_true, Oper.wp, hv w hC, Oper.upon]; exact .inl h
  · simp only [hw, Bool.false_eq_true, if_false]; exact h

theorem YieldsC.of_same {o : Oper} {v : Value} {a a' : Act} (hy : YieldsC P ops C o v a) (he : execOp a'.eval o = execOp a.eval o)
    (hw : Region.wanted o (yielded ops a'.tmps) = Region.wanted o (yielded ops a.tmps)) : YieldsC P ops C o v a' := by
  unfold YieldsC at *; rw [he, hw]; exact hy

theorem wpOpC_put {j : Nat} {oi oj : Oper} {v : Value} (hj : ops[j]? = some oj) (hap : oi.apart ops oj = true) (hsi : ∀ cs b, oi.op ≠ .select cs b) (hsj : ∀ cs b, oj.op ≠ .select cs b)
    (hQ : ∀ c a w, Q (.panic c) (a.put oi.dst v) w → Q (.panic c) a w) {K : Act → World → Prop} {a : Act} {w : World}
    (hy : YieldsC P ops C oi v a) (h : wpOp P ops Q j K (a.put oi.dst v) w) : wpOp P ops Q j (fun a' w' => YieldsC P ops C oi v a' ∧ K (a'.put oi.dst v) w') a w := by
  obtain ⟨h1, h2, h3⟩ := Oper.apart_spec hap
  have keep : ∀ (a : Act), YieldsC P ops C oi v a → ∀ u, YieldsC P ops C oi v (a.put oj.dst u) := fun a hy u => hy.of_same (execOp_put oi hsi a oj.dst u h3) (wanted_put oi a oj.dst u h3)
  have keepD : ∀ d, YieldsC P ops C oi v { a with defers := d :: a.defers } := fun d => hy.of_same rfl rfl
  unfold wpOp at *
  simp only [hj] at *
  rw [wanted_put oj a oi.dst v h1] at h
  split
  · rename_i hw
    simp only [hw, if_true] at h
    rcases h with h | ⟨hasks, hlets⟩
    case inr => exact .inr ⟨by unfold Oper.asks at *; rw [execOp_put oj hsj a oi.dst v h1] at hasks; exact hasks, hlets⟩
    refine .inl ?_
    unfold Oper.wp at *
    rw [execOp_put oj hsj a oi.dst v h1] at h
    revert h
    generalize (execOp a.eval oj).run P w = r
    intro h
    cases r with
    | ok x w' =>
      cases x <;> simp only [Oper.upon] at h ⊢
      case value u => exact ⟨keep a hy u, by rw [← Act.put_comm a v u h2]; exact h⟩
      case skip => exact ⟨keep a hy _, by rw [← Act.put_comm a v undef h2]; exact h⟩
      case defer d => exact ⟨keep _ (keepD d) _, by rw [← Act.put_comm _ v undef h2, ← Act.put_defers]; exact h⟩
      case enter g args =>
        refine Calls.mono h fun e w'' he => ?_
        cases e with
        | returned u => exact ⟨keep a hy u, by rw [← Act.put_comm a v u h2]; exact he⟩
        | panicked c => exact hQ _ _ _ he
        | outgrown => exact he
      case row row args => exact Rows.mono h fun u w'' he => ⟨keep a hy u, by rw [← Act.put_comm a v u h2]; exact he⟩
    | halt x w' =>
      cases x <;> simp only [Oper.upon] at h ⊢
      case panic u => exact hQ _ _ _ h
  · rename_i hw
    simp only [hw] at h
    exact ⟨keep a hy _, by rw [← Act.put_comm a v undef h2]; exact h⟩

/-- What reads may be taken first, where whatever does not keep its class waits for it. -/
theorem AnyP.first {ls₀ : Array Bool} {i : Nat} {oi : Oper} {v : Value} (hi : ops[i]? = some oi) (hsel : ∀ (j : Nat) (o : Oper) cs b, ops[j]? = some o → o.op ≠ .select cs b)
    (hQ : ∀ c a w, Q (.panic c) (a.put oi.dst v) w → Q (.panic c) a w) (C' : World → Prop) (hblk : (∀ w, C' w) ∨ (C' = C ∧ ∀ j oj, ops[j]? = some oj → pres j = false → j ≠ i → ls₀.getD j true = false → ∃ m, reach ops m i j = true)) :
    ∀ (m : Nat) (ls : Array Bool) (a : Act) (w : World), closed ops ls → (∀ j, ls.getD j true = false → ls₀.getD j true = false) → C' w →
      (∀ j oj, ops[j]? = some oj → j ≠ i → ls.getD j true = false → (∀ e ∈ oj.after, Region.binds .any e = true → e.on ≠ i) → oi.apart ops oj = true) →
      i ∈ Region.ready .any ops ls → YieldsC P ops C' oi v a →
      AnyP P ops pres C Q m (ls.setIfInBounds i true) (a.put oi.dst v) w → AnyP P ops pres C Q (m + 1) ls a w := by
  intro m
  induction m with
  | zero =>
    intro ls a w _ _ hC _ hr hy H
    refine ⟨fun h => (by rw [h] at hr; cases hr), fun j hj => ?_⟩
    by_cases hji : j = i
    · subst hji; exact hy.wpOp hi hC ⟨fun _ h => h, H⟩
    · have := ready_mono hj hji
      rw [H.1] at this
      cases this
  | succ m ih =>
    intro ls a w hcl hls hC hfree hr hy H
    refine ⟨fun h => (by rw [h] at hr; cases hr), fun j hj => ?_⟩
    by_cases hji : j = i
    · subst hji; exact hy.wpOp hi hC ⟨fun _ h => h, H⟩
    · have h1 := H.2 j (ready_mono hj hji)
      obtain ⟨hjun, oj, hoj, hall⟩ := mem_ready.1 hj
      have hiun : ls.getD i false = false := by
        have h0 := (mem_ready.1 hr).1
        rcases Nat.lt_or_ge i ls.size with h' | h'
        · simp [h'] at h0 ⊢; exact h0
        · simp [Array.getElem?_eq_none h'] at h0
      have hnot : ∀ e ∈ oj.after, Region.binds .any e = true → e.on ≠ i := fun e he hb heq => by
        have h1 := hall e he hb
        rw [heq, hiun] at h1; cases h1
      have h2 := wpOpC_put (C := C') hoj (hfree j oj hoj hji hjun hnot) (fun cs b => hsel i oi cs b hi) (fun cs b => hsel j oj cs b hoj) hQ hy h1
      have hfree' : ∀ k ok, ops[k]? = some ok → k ≠ i → (ls.setIfInBounds j true).getD k true = false →
          (∀ e ∈ ok.after, Region.binds .any e = true → e.on ≠ i) → oi.apart ops ok = true := fun k ok hk hki hun hno => by
        refine hfree k ok hk hki ?_ hno
        by_cases hjk : j = k
        · subst hjk; exact hjun
        · rw [getD_set_ne true hjk] at hun; exact hun
      refine wpOp_mono (fun a' w' h3 => ?_) h2
      obtain ⟨h3, h4, h5⟩ := h3
      have hC' : C' w' := by
        rcases hblk with hh | ⟨rfl, hh⟩
        · exact hh _
        · cases hpj : pres j with
          | true => exact h4 hpj hC
          | false =>
            obtain ⟨q, hq⟩ := hh j oj hoj hpj hji (hls j hjun)
            have := reach_spec hcl i q j oj hoj hall hq
            rw [hiun] at this; cases this
      refine ⟨h4, ih (ls.setIfInBounds j true) a' w' (hcl.set hj) (fun q hq => hls q ?_) hC' hfree' (ready_mono hr (Ne.symm hji)) h3 ?_⟩
      · by_cases hjq : j = q
        · subst hjq; exact hjun
        · rw [getD_set_ne true hjq] at hq; exact hq
      · rw [Array.setIfInBounds_comm _ _ hji]
        exact h5

theorem getD_false_true {ls : Array Bool} {j : Nat} (h : ls.getD j false = true) : ls.getD j true = true := by
  rcases Nat.lt_or_ge j ls.size with h' | h'
  · simp [h'] at h ⊢; exact h
  · simp [Array.getElem?_eq_none h'] at h

/-! ### The rules for a region that draws -/
def lst (ops : Array Oper) : List Nat → Array Bool
  | [] => Array.replicate ops.size false
  | i :: dn => (lst ops dn).setIfInBounds i true

/-- What is left of a region that draws, behind those operations that are done. -/
def Any (P : Program) (f : FuncId) (n : Nat) (ops : Array Oper) (loud : List Nat) (σ₀ : Heap) (m : Nat) (dn : List Nat) (l : Slots) (σ : Heap) (k : List Item) (Φ : Value → Heap → Prop) : Prop :=
  closed ops (lst ops dn) → ∀ a w, Fr n l a → Sat w σ → AnyP P ops (fun i => !loud.contains i) (fun w => HSat w σ₀) (Qk P f k (Ret Φ)) m (lst ops dn) a w

theorem closed_nil (ops : Array Oper) : closed ops (lst ops []) := fun j oj _ hl => by
  simp only [lst] at hl
  rcases Nat.lt_or_ge j ops.size with h | h
  · simp [h] at hl
  · simp [h] at hl

/-- 'loud': the operations that may turn what the region's reads look at. -/
theorem St.drawAny {id : Nat} {ops : Array Oper} {σ₀ : Heap} (loud : List Nat) (hm : P.follows .mixedOrders = true) (h : Any P f n ops loud σ₀ ops.size [] l σ k Φ) : St P f n l σ (.code (.region id ops true) :: k) Φ :=
  fun a _ ha hw => Goes.of_wp (wp_region_any hm (AnyP.any _ _ _ _ (h (closed_nil ops) a _ ha hw.drew)))

/-- An operation of the region in its place: it alone may come up. -/
def soleB (ops : Array Oper) (dn : List Nat) (i : Nat) : Bool := decide (Region.ready .any ops (lst ops dn) = [i])
/-- An operation that may be taken first, whatever the others do to the world. -/
def freeB (ops : Array Oper) (dn : List Nat) (i : Nat) : Bool := Region.noSelect ops && (Region.ready .any ops (lst ops dn)).contains i && Region.free .any ops (lst ops dn) i
theorem reach_ext {ops : Array Oper} {x k : Nat} {ok : Oper} (hk : ops[k]? = some ok) {e : Edge} (he : e ∈ ok.after) (hb : Region.binds .any e = true) (hx : e.on = x) : ∀ (m j : Nat), reach ops m k j = true → reach ops (m + 1) x j = true := by
  have one : ∀ m, reach ops (m + 1) x k = true := fun m => by
    simp only [reach, hk]
    exact Array.any_eq_true'.2 ⟨e, he, by simp [hb, hx]⟩
  intro m
  induction m with
  | zero => intro j h; cases h
  | succ m ih =>
    intro j h
    simp only [reach] at h
    cases hj : ops[j]? with
    | none => rw [hj] at h; cases h
    | some oj =>
      rw [hj] at h
      obtain ⟨d, hd, hd2⟩ := Array.any_eq_true'.1 h
      simp only [Bool.and_eq_true, Bool.or_eq_true, beq_iff_eq] at hd2
      rw [reach, hj]
      refine Array.any_eq_true'.2 ⟨d, hd, ?_⟩
      simp only [Bool.and_eq_true, Bool.or_eq_true, beq_iff_eq]
      refine ⟨hd2.1, .inr ?_⟩
      rcases hd2.2 with h1 | h1
      · rw [h1]; exact one m
      · exact ih _ h1
/-- All for which the operation j waits, as bits: one sweep from above. -/
def sweep (ops : Array Oper) : Nat → Nat → Nat
  | 0, s => s
  | k + 1, s => sweep ops k (if s.testBit k then (match ops[k]? with
    | none => s
    | some o => o.after.toList.foldl (fun s e => if Region.binds .any e then s ||| (1 <<< e.on) else s) s) else s)
theorem sweep_sound {ops : Array Oper} (j : Nat) : ∀ (k s : Nat), (∀ i, s.testBit i = true → i = j ∨ ∃ m, reach ops m i j = true) → ∀ i, (sweep ops k s).testBit i = true → i = j ∨ ∃ m, reach ops m i j = true
  | 0, s, h => h
  | k + 1, s, h => by
    refine sweep_sound j k _ ?_
    by_cases hk : s.testBit k = true
    · rw [if_pos hk]
      cases ho : ops[k]? with
      | none => exact h
      | some o =>
        simp only []
        have base := h k hk
        have key : ∀ (es : List Edge) (s : Nat), (∀ e ∈ es, e ∈ o.after) → (∀ i, s.testBit i = true → i = j ∨ ∃ m, reach ops m i j = true) →
            ∀ i, (es.foldl (fun s e => if Region.binds .any e then s ||| (1 <<< e.on) else s) s).testBit i = true → i = j ∨ ∃ m, reach ops m i j = true := by
          intro es
          induction es with
          | nil => exact fun s _ hs => hs
          | cons e es ih =>
            intro s hes hs
            refine ih _ (fun e' he' => hes e' (List.mem_cons_of_mem _ he')) ?_
            by_cases hb : Region.binds .any e = true
            · simp only [hb, if_true]
              intro i hi
              rw [Nat.testBit_or, Bool.or_eq_true] at hi
              rcases hi with hi | hi
              · exact hs i hi
              · have hx : e.on = i := by
                  rw [Nat.one_shiftLeft, Nat.testBit_two_pow] at hi
                  simpa using hi
                right
                have hmem := hes e (List.mem_cons_self ..)
                rcases base with rfl | ⟨m, hm⟩
                · refine ⟨1, ?_⟩
                  simp only [reach, ho]
                  exact Array.any_eq_true'.2 ⟨e, hmem, by simp [hb, hx]⟩
                · exact ⟨m + 1, reach_ext ho hmem hb hx m j hm⟩
            · simp only [hb]; exact hs
        exact key o.after.toList s (fun e he => by simpa using he) h
    · rw [if_neg hk]; exact h
def reachF (ops : Array Oper) (i j : Nat) : Bool := (sweep ops (j + 1) (1 <<< j)).testBit i
theorem reachF_sound {ops : Array Oper} {i j : Nat} (hij : j ≠ i) (h : reachF ops i j = true) : ∃ m, reach ops m i j = true := by
  rcases sweep_sound (ops := ops) j (j + 1) (1 <<< j) (fun i hi => .inl (by rw [Nat.one_shiftLeft, Nat.testBit_two_pow] at hi; exact (by simpa using hi : j = i).symm)) i h with h1 | h1
  · exact absurd h1.symm hij
  · exact h1
/-- .. whatever those do that don't wait for it. -/
def readB (ops : Array Oper) (loud : List Nat) (dn : List Nat) (i : Nat) : Bool :=
  freeB ops dn i && loud.all fun j => j == i || (lst ops dn).getD j false || reachF ops i j

theorem Qk_put {P : Program} {f : FuncId} {k : List Item} {R : Ending → World → Prop} {dst : Option Tmp} {v : Value} : ∀ c a w, Qk P f k R (.panic c) (a.put dst v) w → Qk P f k R (.panic c) a w :=
  fun _ _ _ h => by cases dst <;> exact h

section
variable {loud : List Nat} {σ₀ : Heap} {m : Nat} {dn : List Nat}

theorem Any.done (hr : (Region.ready .any ops (lst ops dn)).isEmpty = true) (h : St P f n l σ k Φ) : Any P f n ops loud σ₀ m dn l σ k Φ := by
  intro _ a w ha hw
  have hr' : Region.ready .any ops (lst ops dn) = [] := by simpa using hr
  cases m with
  | zero => exact ⟨hr', h a w ha hw⟩
  | succ m => exact ⟨fun _ => h a w ha hw, fun i hi => by rw [hr'] at hi; cases hi⟩

theorem Any.e {i : Nat} {o : Oper} {K : Value → Heap → Prop} (ho : ops[i]? = some o) (hs : soleB ops dn i = true) (hg : wants ops l o = some true) (hd : dstOk n o.dst = true) (h : EOp P n o.op o.type l σ K)
    (hn : ∀ v σ', K v σ' → (loud.contains i = true ∨ Sub σ₀ σ') ∧ Any P f n ops loud σ₀ m (i :: dn) (ins o.dst v l) σ' k Φ) : Any P f n ops loud σ₀ (m + 1) dn l σ k Φ := by
  intro hc a w ha hw
  have hs' : Region.ready .any ops (lst ops dn) = [i] := by simpa [soleB] using hs
  refine ⟨fun h0 => (by rw [h0] at hs'; cases hs'), fun j hj => ?_⟩
  rw [hs'] at hj
  have hji : j = i := by simpa using hj
  subst hji
  unfold wpOp
  simp only [ho]
  rw [if_pos (wants_spec ha hg)]
  refine .inl (h.wp ha hw fun v σ' w' hk hs => ⟨fun hp _ => ?_, ?_⟩)
  · rcases (hn v σ' hk).1 with h1 | h1
    · rw [h1] at hp; cases hp
    · exact (hs.sub h1).heap
  · exact (hn v σ' hk).2 (hc.set (by rw [hs']; simp)) _ w' (ha.ins v hd) hs

theorem Any.skip {i : Nat} {o : Oper} (ho : ops[i]? = some o) (hs : freeB ops dn i = true) (hg : wants ops l o = some false) (hd : dstOk n o.dst = true)
    (hn : Any P f n ops loud σ₀ m (i :: dn) (ins o.dst undef l) σ k Φ) : Any P f n ops loud σ₀ (m + 1) dn l σ k Φ := by
  intro hc a w ha hw
  simp only [freeB, Bool.and_eq_true] at hs
  obtain ⟨⟨hs1, hs2⟩, hs3⟩ := hs
  have hr : i ∈ Region.ready .any ops (lst ops dn) := by simpa using hs2
  refine AnyP.first (ls₀ := lst ops dn) ho (Region.noSelect_spec hs1) Qk_put (fun _ => True) (.inl fun _ => trivial) m _ a w hc (fun _ h => h) trivial (Region.free_spec ho hs3) hr (.inr ⟨wants_spec ha hg, rfl⟩) ?_
  exact hn (hc.set hr) _ w (ha.ins undef hd) hw

/-- An operation that touches no memory. -/
theorem Any.w {i : Nat} {o : Oper} {v : Value} (ho : ops[i]? = some o) (hs : freeB ops dn i = true) (hg : wants ops l o = some true) (hd : dstOk n o.dst = true) (h : QOp P n o.op o.type l (fun _ => none) v)
    (hn : Any P f n ops loud σ₀ m (i :: dn) (ins o.dst v l) σ k Φ) : Any P f n ops loud σ₀ (m + 1) dn l σ k Φ := by
  intro hc a w ha hw
  simp only [freeB, Bool.and_eq_true] at hs
  obtain ⟨⟨hs1, hs2⟩, hs3⟩ := hs
  have hr : i ∈ Region.ready .any ops (lst ops dn) := by simpa using hs2
  refine AnyP.first (ls₀ := lst ops dn) ho (Region.noSelect_spec hs1) Qk_put (fun _ => True) (.inl fun _ => trivial) m _ a w hc (fun _ h => h) trivial (Region.free_spec ho hs3) hr
    (.inl ⟨wants_spec ha hg, fun w _ => h.run a w ha (fun _ _ h => by cases h) o.dst o.pos o.after o.guard⟩) ?_
  exact hn (hc.set hr) _ w (ha.ins v hd) hw

/-- An operation that reads. -/
theorem Any.r {i : Nat} {o : Oper} {v : Value} (ho : ops[i]? = some o) (hs : readB ops loud dn i = true) (hg : wants ops l o = some true) (hd : dstOk n o.dst = true) (hsub : Sub σ₀ σ) (h : QOp P n o.op o.type l σ₀ v)
    (hn : Any P f n ops loud σ₀ m (i :: dn) (ins o.dst v l) σ k Φ) : Any P f n ops loud σ₀ (m + 1) dn l σ k Φ := by
  intro hc a w ha hw
  simp only [readB, freeB, Bool.and_eq_true] at hs
  obtain ⟨⟨⟨hs1, hs2⟩, hs3⟩, hs4⟩ := hs
  have hr : i ∈ Region.ready .any ops (lst ops dn) := by simpa using hs2
  refine AnyP.first (ls₀ := lst ops dn) ho (Region.noSelect_spec hs1) Qk_put (fun w => HSat w σ₀) (.inr ⟨rfl, fun j oj _ hp hji hun => ?_⟩) m _ a w hc (fun _ h => h) (hw.sub hsub).heap (Region.free_spec ho hs3) hr
    (.inl ⟨wants_spec ha hg, fun w hw => h.run a w ha hw o.dst o.pos o.after o.guard⟩) ?_
  · have hj : j ∈ loud := by simpa using hp
    have := List.all_eq_true.1 hs4 j hj
    simp only [Bool.or_eq_true, beq_iff_eq] at this
    rcases this with (h1 | h1) | h1
    · exact absurd h1 hji
    · rw [getD_false_true h1] at hun; cases hun
    · exact reachF_sound hji h1
  exact hn (hc.set hr) _ w (ha.ins v hd) hw

theorem Any.skipX {i : Nat} {o : Oper} (ho : ops[i]? = some o) (hs : soleB ops dn i = true) (hg : wants ops l o = some false) (hd : dstOk n o.dst = true)
    (hn : Any P f n ops loud σ₀ m (i :: dn) (ins o.dst undef l) σ k Φ) : Any P f n ops loud σ₀ (m + 1) dn l σ k Φ := by
  intro hc a w ha hw
  have hs' : Region.ready .any ops (lst ops dn) = [i] := by simpa [soleB] using hs
  refine ⟨fun h0 => (by rw [h0] at hs'; cases hs'), fun j hj => ?_⟩
  rw [hs'] at hj
  have hji : j = i := by simpa using hj
  subst hji
  unfold wpOp
  simp only [ho]
  rw [if_neg (by rw [wants_spec ha hg]; simp)]
  exact ⟨fun _ h => h, hn (hc.set (by rw [hs']; simp)) _ w (ha.ins undef hd) hw⟩

/-! ### One order, checked at once -/
/-- How an operation is taken: it touches no memory, it reads, it alone may come up. -/
inductive Kd where | w | r | x
def orderB (ops : Array Oper) (loud : List Nat) : List (Nat × Kd) → List Nat → Bool
  | [], dn => (Region.ready .any ops (lst ops dn)).isEmpty
  | (i, .w) :: q, dn => freeB ops dn i && orderB ops loud q (i :: dn)
  | (i, .r) :: q, dn => readB ops loud dn i && orderB ops loud q (i :: dn)
  | (i, .x) :: q, dn => soleB ops dn i && orderB ops loud q (i :: dn)
/-- What is left of a region that draws its order, if one takes it in this one. -/
def Dr (P : Program) (f : FuncId) (n : Nat) (ops : Array Oper) (loud : List Nat) (σ₀ : Heap) (q : List (Nat × Kd)) (l : Slots) (σ : Heap) (k : List Item) (Φ : Value → Heap → Prop) : Prop :=
  ∀ dn m, orderB ops loud q dn = true → q.length ≤ m → Any P f n ops loud σ₀ m dn l σ k Φ

theorem St.draw {id : Nat} {ops : Array Oper} (σ₀ : Heap) (loud : List Nat) (q : List (Nat × Kd)) (hm : P.follows .mixedOrders = true) (hq : orderB ops loud q [] = true) (hl : q.length = ops.size) (h : Dr P f n ops loud σ₀ q l σ k Φ) : St P f n l σ (.code (.region id ops true) :: k) Φ :=
  St.drawAny loud hm (h [] ops.size hq (by omega))
theorem St.draw0 {id : Nat} {ops : Array Oper} (loud : List Nat) (q : List (Nat × Kd)) (hm : P.follows .mixedOrders = true) (hq : orderB ops loud q [] = true) (hl : q.length = ops.size) (h : Dr P f n ops loud σ q l σ k Φ) : St P f n l σ (.code (.region id ops true) :: k) Φ :=
  St.draw σ loud q hm hq hl h
theorem Dr.done (h : St P f n l σ k Φ) : Dr P f n ops loud σ₀ [] l σ k Φ := fun _ _ hq _ => Any.done hq h
section
variable {q : List (Nat × Kd)} {i : Nat} {o : Oper} {d : Nat} {v : Value}
theorem Dr.w (ho : ops[i]? = some o) (hg : wants ops l o = some true) (hdst : o.dst = some d) (hd : Nat.blt d n = true) (h : QOp P n o.op o.type l (fun _ => none) v) (hn : Dr P f n ops loud σ₀ q ((d, v) :: l) σ k Φ) : Dr P f n ops loud σ₀ ((i, .w) :: q) l σ k Φ := by
  intro dn m hq hm
  simp only [orderB, Bool.and_eq_true] at hq
  obtain ⟨m, rfl⟩ : ∃ j, m = j + 1 := ⟨m - 1, by simp at hm; omega⟩
  refine Any.w ho hq.1 hg (by rw [hdst]; simpa [dstOk] using hd) h ?_
  rw [hdst]; exact hn _ _ hq.2 (by simpa using hm)
theorem Dr.r (ho : ops[i]? = some o) (hg : wants ops l o = some true) (hdst : o.dst = some d) (hd : Nat.blt d n = true) (hsub : Sub σ₀ σ) (h : QOp P n o.op o.type l σ₀ v) (hn : Dr P f n ops loud σ₀ q ((d, v) :: l) σ k Φ) : Dr P f n ops loud σ₀ ((i, .r) :: q) l σ k Φ := by
  intro dn m hq hm
  simp only [orderB, Bool.and_eq_true] at hq
  obtain ⟨m, rfl⟩ : ∃ j, m = j + 1 := ⟨m - 1, by simp at hm; omega⟩
  refine Any.r ho hq.1 hg (by rw [hdst]; simpa [dstOk] using hd) hsub h ?_
  rw [hdst]; exact hn _ _ hq.2 (by simpa using hm)
theorem readB_free {ops : Array Oper} {loud dn : List Nat} {i : Nat} (h : readB ops loud dn i = true) : freeB ops dn i = true := by
  simp only [readB, Bool.and_eq_true] at h; exact h.1
theorem Dr.skip {kd : Kd} (ho : ops[i]? = some o) (hg : wants ops l o = some false) (hdst : o.dst = some d) (hd : Nat.blt d n = true) (hn : Dr P f n ops loud σ₀ q ((d, undef) :: l) σ k Φ) : Dr P f n ops loud σ₀ ((i, kd) :: q) l σ k Φ := by
  intro dn m hq hm
  obtain ⟨m, rfl⟩ : ∃ j, m = j + 1 := ⟨m - 1, by simp at hm; omega⟩
  have hd' : dstOk n o.dst = true := by rw [hdst]; simpa [dstOk] using hd
  have hn' : ∀ hq2 : orderB ops loud q (i :: dn) = true, Any P f n ops loud σ₀ m (i :: dn) (ins o.dst undef l) σ k Φ := fun hq2 => by rw [hdst]; exact hn _ _ hq2 (by simpa using hm)
  cases kd <;> simp only [orderB, Bool.and_eq_true] at hq
  · exact Any.skip ho hq.1 hg hd' (hn' hq.2)
  · exact Any.skip ho (readB_free hq.1) hg hd' (hn' hq.2)
  · exact Any.skipX ho hq.1 hg hd' (hn' hq.2)
/-- A loud operation, or one behind which all that is read is as it was. -/
theorem Dr.x (ho : ops[i]? = some o) (hg : wants ops l o = some true) (hdst : o.dst = some d) (hd : Nat.blt d n = true) (h : EOp P n o.op o.type l σ (fun v σ' => (loud.contains i = true ∨ Sub σ₀ σ') ∧ Dr P f n ops loud σ₀ q ((d, v) :: l) σ' k Φ)) : Dr P f n ops loud σ₀ ((i, .x) :: q) l σ k Φ := by
  intro dn m hq hm
  simp only [orderB, Bool.and_eq_true] at hq
  obtain ⟨m, rfl⟩ : ∃ j, m = j + 1 := ⟨m - 1, by simp at hm; omega⟩
  refine Any.e ho hq.1 hg (by rw [hdst]; simpa [dstOk] using hd) h fun v σ' hk => ⟨hk.1, ?_⟩
  rw [hdst]; exact hk.2 _ _ hq.2 (by simpa using hm)
theorem Dr.no (ho : ops[i]? = some o) (hg : wants ops l o = some true) (hdst : o.dst = none) (h : EOp P n o.op o.type l σ (fun _ σ' => (loud.contains i = true ∨ Sub σ₀ σ') ∧ Dr P f n ops loud σ₀ q l σ' k Φ)) : Dr P f n ops loud σ₀ ((i, .x) :: q) l σ k Φ := by
  intro dn m hq hm
  simp only [orderB, Bool.and_eq_true] at hq
  obtain ⟨m, rfl⟩ : ∃ j, m = j + 1 := ⟨m - 1, by simp at hm; omega⟩
  refine Any.e ho hq.1 hg (by rw [hdst]; rfl) h fun v σ' hk => ⟨hk.1, ?_⟩
  rw [hdst]; exact hk.2 _ _ hq.2 (by simpa using hm)
theorem Dr.joinv (d : Nat) (v : Value) (j : Nat) (ks : List Nat) (h : Dr P f n ops loud σ₀ (q.drop j) ((d, v) :: keep ks l) σ k Φ → Dr P f n ops loud σ₀ q l σ k Φ) (hk : Dr P f n ops loud σ₀ (q.drop j) ((d, v) :: keep ks l) σ k Φ) : Dr P f n ops loud σ₀ q l σ k Φ := h hk
theorem Dr.meet {d : Nat} {b c : Bool} {m' : Slots} (j : Nat) (ks : List Nat) (hk : Dr P f n ops loud σ₀ q ((d, .bool c) :: m') σ k Φ) (hv : lk l d = some (.bool b)) (he : b = c) (hj : keep ks (l.drop j) = m') (ha : apartB (l.take j) m' = true) : Dr P f n ops loud σ₀ q l σ k Φ :=
  fun dn m hq hm hc a w hf hw => hk dn m hq hm hc a w (hf.sub (SubL.meet j ks hv he hj ha)) hw
theorem Dr.split {c : Bool} (hl : lk l d = some (.bool c)) (h1 : c = true → Dr P f n ops loud σ₀ q ((d, .bool true) :: l) σ k Φ) (h2 : c = false → Dr P f n ops loud σ₀ q ((d, .bool false) :: l) σ k Φ) : Dr P f n ops loud σ₀ q l σ k Φ := by
  intro dn m hq hm hc a w ha hw
  cases c with
  | true => exact h1 rfl dn m hq hm hc a w (ha.sub (SubL.cons hl (SubL.rfl' l))) hw
  | false => exact h2 rfl dn m hq hm hc a w (ha.sub (SubL.cons hl (SubL.rfl' l))) hw
end
end
end
end Go.Gw
