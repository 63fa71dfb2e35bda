/- The plain law, first part: what is said of stays rests on what their messages say. -/
import Derived.Test.YtdgdbnkhmdncdaaLw
set_option linter.unusedSectionVars false
set_option linter.unusedSimpArgs false
set_option linter.unusedVariables false
namespace Go.Cs
open Go Go.Gw
variable [Env]
/-! ### Rows -/
theorem any_rel {X Y : Type} {F : X → Bool} {G : Y → Bool} : ∀ {xs : List X} {ys : List Y}, xs.length = ys.length → (∀ (i : Nat) (x : X) (y : Y), xs[i]? = some x → ys[i]? = some y → F x = G y) → xs.any F = ys.any G
  | [], [], _, _ => rfl
  | x :: xs, y :: ys, hl, h => by
    rw [List.any_cons, List.any_cons, h 0 x y rfl rfl, any_rel (xs := xs) (ys := ys) (by simpa using hl) fun i a b ha hb => h (i + 1) a b (by simpa using ha) (by simpa using hb)]
theorem any_mem {X : Type} {f g : X → Bool} : ∀ {l : List X}, (∀ x ∈ l, f x = g x) → l.any f = l.any g
  | [], _ => rfl
  | x :: l, h => by rw [List.any_cons, List.any_cons, h x (List.mem_cons_self ..), any_mem (l := l) fun y hy => h y (List.mem_cons_of_mem _ hy)]
theorem any_set_or {X : Type} {l : List X} {k : Nat} {x x' : X} {f : X → Bool} {c : Bool} (hk : l[k]? = some x) (hf : f x' = (f x || c)) : (l.set k x').any f = (l.any f || c) := by
  induction l generalizing k with
  | nil => cases hk
  | cons y l ih =>
    cases k with
    | zero =>
      simp only [List.getElem?_cons_zero, Option.some.injEq] at hk
      subst hk
      rw [List.set_cons_zero, List.any_cons, List.any_cons, hf]
      cases f y <;> cases c <;> simp
    | succ k =>
      rw [List.set_cons_succ, List.any_cons, List.any_cons, ih (by simpa using hk), Bool.or_assoc]
def Oth {X : Type} (l : List X) (k : Nat) (a : X) : Prop := ∃ i, i ≠ k ∧ l[i]? = some a
theorem mem_oth {X : Type} {l : List X} {k : Nat} {x : X} (hk : l[k]? = some x) (a : X) : a ∈ l ↔ Oth l k a ∨ a = x := by
  constructor
  · intro h
    obtain ⟨i, hi⟩ := List.mem_iff_getElem?.1 h
    by_cases e : i = k
    · subst e; rw [hk] at hi; exact .inr (Option.some.inj hi).symm
    · exact .inl ⟨i, e, hi⟩
  · rintro (⟨i, _, hi⟩ | rfl)
    · exact List.mem_of_getElem? hi
    · exact List.mem_of_getElem? hk
theorem mem_set_oth {X : Type} {l : List X} {k : Nat} {x x' : X} (hk : l[k]? = some x) (a : X) : a ∈ l.set k x' ↔ Oth l k a ∨ a = x' := by
  have hlt := (List.getElem?_eq_some_iff.1 hk).1
  constructor
  · intro h
    obtain ⟨i, hi⟩ := List.mem_iff_getElem?.1 h
    rw [List.getElem?_set] at hi
    by_cases e : k = i
    · subst e; simp [hlt] at hi; exact .inr hi.symm
    · rw [if_neg e] at hi; exact .inl ⟨i, fun h => e h.symm, hi⟩
  · rintro (⟨i, hne, hi⟩ | rfl)
    · exact List.mem_iff_getElem?.2 ⟨i, by rw [List.getElem?_set, if_neg fun h => hne h.symm]; exact hi⟩
    · exact List.mem_iff_getElem?.2 ⟨k, by rw [List.getElem?_set]; simp [hlt]⟩
def any2 {X : Type} (R : X → X → Bool) (l : List X) : Bool := l.any fun a => l.any fun b => R a b
theorem any2_iff {X : Type} {R : X → X → Bool} {l : List X} : any2 R l = true ↔ ∃ a b, a ∈ l ∧ b ∈ l ∧ R a b = true := by
  simp only [any2, List.any_eq_true]
  constructor
  · rintro ⟨a, ha, b, hb, h⟩; exact ⟨a, b, ha, hb, h⟩
  · rintro ⟨a, b, ha, hb, h⟩; exact ⟨a, ha, b, hb, h⟩
theorem any2_set {X : Type} {R : X → X → Bool} {l : List X} {k : Nat} {x x' : X} (c : X → Bool) (hk : l[k]? = some x) (hx : ∀ a, R a x = false) (hc : ∀ b, R x' b = (R x b || c b)) :
    any2 R (l.set k x') = ((any2 R l || (l.set k x').any fun a => R a x') || (l.set k x').any c) := by
  rw [Bool.eq_iff_iff]
  simp only [Bool.or_eq_true, any2_iff, List.any_eq_true, mem_set_oth hk, mem_oth hk]
  constructor
  · rintro ⟨a, b, ha, hb, h⟩
    rcases hb with hb | rfl
    · rcases ha with ha | rfl
      · exact .inl (.inl ⟨a, b, .inl ha, .inl hb, h⟩)
      · rw [hc b, Bool.or_eq_true] at h
        rcases h with h | h
        · exact .inl (.inl ⟨x, b, .inr rfl, .inl hb, h⟩)
        · exact .inr ⟨b, .inl hb, h⟩
    · exact .inl (.inr ⟨a, ha, h⟩)
  · rintro ((⟨a, b, ha, hb, h⟩ | ⟨a, ha, h⟩) | ⟨b, hb, h⟩)
    · rcases hb with hb | rfl
      · rcases ha with ha | rfl
        · exact ⟨a, b, .inl ha, .inl hb, h⟩
        · exact ⟨x', b, .inr rfl, .inl hb, by rw [hc b, h]; rfl⟩
      · rw [hx a] at h; cases h
    · exact ⟨a, x', ha, .inr rfl, h⟩
    · exact ⟨x', b, .inr rfl, hb, by rw [hc b, h]; simp⟩
theorem any2_push {X : Type} {R : X → X → Bool} {l : List X} {y : X} (h1 : ∀ a, R a y = false) (h2 : ∀ b, R y b = false) : any2 R (l ++ [y]) = any2 R l := by
  simp [any2, List.any_append, h1, h2]

/-! ### Cores -/
theorem same_core (a b : Msg) : same a b = (a.core == b.core) := by
  rw [Bool.eq_iff_iff, same_iff]; simp
def owesC (mem proc : Int) (bl : List Core) (c : Core) : Bool := c.2.2.2.1 == 2 && has mem proc && !(bl.any fun d => c == d)
theorem owesM_core (mem : Int) (b : MSt) (m : Msg) : owesM mem b m = owesC mem b.proc (b.all.map Msg.core) m.core := by
  have e : (b.all.any fun y => same m y) = ((b.all.map Msg.core).any fun d => m.core == d) := by
    rw [List.any_map]; congr 1; funext y; exact same_core m y
  unfold owesM owesC; rw [e]; rfl
theorem owesAt_core (a b : JSt) (g : Got) : owesAt a b g = owesC (if g.tr then transMem a.trans else a.mem) b.proc (b.gots.map fun h => h.m.core) g.m.core := by
  have e : (b.gots.any fun h => same h.m g.m) = ((b.gots.map fun h => h.m.core).any fun d => g.m.core == d) := by
    rw [List.any_map]; congr 1; funext y; show same y.m g.m = (g.m.core == y.m.core); rw [same_core]; exact BEq.comm
  unfold owesAt owesC; rw [e]; rfl
theorem any_parts (f : Got → Bool) : ∀ gs : List Got, gs.any f = ((gs.filter fun g => g.tr == false).any f || (gs.filter fun g => g.tr == true).any f)
  | [] => rfl
  | g :: gs => by
    rw [List.any_cons, any_parts f gs]
    cases h : g.tr
    · simp [h, Bool.or_assoc]
    · simp [h]; cases f g <;> simp
/-- What the monitor keeps of a stay is what the judge keeps of it. -/
structure StRel (m : MSt) (j : JSt) : Prop where
  proc : m.proc = j.proc
  conf : m.conf = j.conf
  mem : m.mem = j.mem
  went : m.went = j.next.isSome
  tr : m.trans.isSome = j.trans.isSome
  tnew : transNew m.trans = transNew j.trans
  tmem : transMem m.trans = transMem j.trans
  p0 : m.p0.map Msg.core = (partOf j false).map Msg.core
  p1 : m.p1.map Msg.core = (partOf j true).map Msg.core
  all : m.all.map Msg.core = j.gots.map fun g => g.m.core
  late : m.trans.isSome = false → m.p1 = []
def Qm (a b : MSt) : Bool := (a.conf == b.conf && b.went) && (a.p0.any (owesM a.mem b) || a.p1.any (owesM (transMem a.trans) b))
def Pm (a b : MSt) : Bool := (a.conf == b.conf && (a.went && b.went)) && ((!(a.proc == b.proc) && (a.trans.isSome && b.trans.isSome)) && (transNew a.trans == transNew b.trans && (transMem a.trans != transMem b.trans || !sames a.p0 b.p0 || !sames a.p1 b.p1)))
theorem any_core {X : Type} {l : List X} {f : X → Core} {F : Core → Bool} : l.any (fun x => F (f x)) = (l.map f).any F := by rw [List.any_map]; rfl
theorem part_any (s : JSt) (t : Bool) (F : Core → Bool) : (s.gots.filter fun g => g.tr == t).any (fun g => F g.m.core) = ((partOf s t).map Msg.core).any F := by
  unfold partOf; rw [List.map_map, List.any_map]; rfl
theorem safeOn_rel {m m' : MSt} {j j' : JSt} (h : StRel m j) (h' : StRel m' j') : safeOn j j' = Qm m m' := by
  have e1 : safeB j j' j.gots.length = (m.p0.any (owesM m.mem m') || m.p1.any (owesM (transMem m.trans) m')) := by
    unfold safeB
    rw [List.take_length, any_parts]
    have a0 : (j.gots.filter fun g => g.tr == false).any (owesAt j j') = m.p0.any (owesM m.mem m') := by
      have : (j.gots.filter fun g => g.tr == false).any (owesAt j j') = (j.gots.filter fun g => g.tr == false).any (fun g => owesC j.mem j'.proc (j'.gots.map fun h => h.m.core) g.m.core) := by
        refine any_mem fun g hg => ?_
        have ht := (List.mem_filter.1 hg).2
        simp at ht
        rw [owesAt_core, ht]; rfl
      rw [this, part_any, ← h.p0, ← any_core]
      congr 1; funext x; rw [owesM_core, h.mem, h'.proc, h'.all]
    have a1 : (j.gots.filter fun g => g.tr == true).any (owesAt j j') = m.p1.any (owesM (transMem m.trans) m') := by
      have : (j.gots.filter fun g => g.tr == true).any (owesAt j j') = (j.gots.filter fun g => g.tr == true).any (fun g => owesC (transMem j.trans) j'.proc (j'.gots.map fun h => h.m.core) g.m.core) := by
        refine any_mem fun g hg => ?_
        have ht := (List.mem_filter.1 hg).2
        simp at ht
        rw [owesAt_core, ht]; rfl
      rw [this, part_any, ← h.p1, ← any_core]
      congr 1; funext x; rw [owesM_core, h.tmem, h'.proc, h'.all]
    rw [a0, a1]
  unfold safeOn Qm
  rw [e1, h.conf, h'.conf, h'.went]
theorem pairB_rel {m m' : MSt} {j j' : JSt} (h : StRel m j) (h' : StRel m' j') : pairB j j' = Pm m m' := by
  unfold pairB pairs Pm sames
  rw [h.conf, h'.conf, h.proc, h'.proc, h.went, h'.went, h.tr, h'.tr, h.tnew, h'.tnew, h.tmem, h'.tmem, h.p0, h.p1, h'.p0, h'.p1]
  simp only [bne, ← Option.not_isSome, Bool.not_or, Bool.not_not]
  cases (j.conf == j'.conf) <;> cases (j.proc == j'.proc) <;> cases j.next.isSome <;> cases j'.next.isSome <;> cases j.trans.isSome <;> cases j'.trans.isSome <;> cases (transNew j.trans == transNew j'.trans) <;> simp
theorem Pm_comm (a b : MSt) : Pm a b = Pm b a := by
  unfold Pm sames
  rw [BEq.comm (a := a.conf), BEq.comm (a := a.proc), BEq.comm (a := transNew a.trans), bne_comm (a := transMem a.trans), BEq.comm (a := a.p0.map Msg.core), BEq.comm (a := a.p1.map Msg.core), Bool.and_comm a.went, Bool.and_comm a.trans.isSome]
theorem clo6_Q {c o : MSt} (hc : c.went = true) (ho : o.trans.isSome = false → o.p1 = []) : clo6 c o = Qm o c := by
  unfold clo6 Qm
  rw [hc]
  cases h : o.trans.isSome
  · rw [ho h]; simp
  · simp
theorem clo5_P {c o : MSt} (hc : c.went = true) : clo5 c o = Pm o c := by
  unfold clo5 pairsM Pm
  rw [hc]
  have e : ((o.conf, transNew o.trans) != (c.conf, transNew c.trans)) = !((o.conf == c.conf) && (transNew o.trans == transNew c.trans)) := rfl
  rw [e]
  simp only [← Option.not_isSome, Bool.not_or, Bool.not_not]
  cases (o.conf == c.conf) <;> cases o.went <;> cases (o.proc == c.proc) <;> cases o.trans.isSome <;> cases c.trans.isSome <;> cases (transNew o.trans == transNew c.trans) <;> simp
end Go.Cs
