/- The plain law, second part: what is said of the order of messages, and of a trace's beginning. -/
import Derived.Test.YtdgdbnkhmdncdaaPl1
set_option linter.unusedSectionVars false
set_option linter.unusedSimpArgs false
set_option linter.unusedVariables false
namespace Go.Cs
open Go Go.Gw
variable [Env]
/-! ### Order and Deps, on cores -/
def kge (a b : Core) : Bool := decide (orI (cmpI a.2.2.1 b.2.2.1) (cmpI a.1 b.1) ≥ 0)
def lastC (l : List Core) (x : Core) : Bool := match l.getLast? with
  | none => false
  | some f => kge f x
def ordAtC (l : List Core) (i : Nat) : Bool := match l[i]? with
  | some g => decide (0 < i) && match l[i - 1]? with
    | some f => kge f g
    | none => false
  | none => false
def ordC (l : List Core) : Bool := (List.range l.length).any (ordAtC l)
theorem range_any {f g : Nat → Bool} {n : Nat} (h : ∀ i, i < n → f i = g i) : (List.range n).any f = (List.range n).any g := any_mem fun i hi => h i (List.mem_range.1 hi)
theorem ordC_snoc (l : List Core) (x : Core) : ordC (l ++ [x]) = (ordC l || lastC l x) := by
  unfold ordC
  rw [List.length_append, List.length_singleton, any_range]
  congr 1
  · refine range_any fun i hi => ?_
    unfold ordAtC
    rw [List.getElem?_append_left hi, List.getElem?_append_left (by omega : i - 1 < l.length)]
  · unfold ordAtC lastC
    rw [List.getElem?_append_right (Nat.le_refl _), Nat.sub_self]
    rcases Nat.eq_zero_or_pos l.length with h0 | h0
    · rw [List.length_eq_zero_iff.1 h0]; rfl
    · rw [List.getElem?_append_left (by omega : l.length - 1 < l.length), List.getLast?_eq_getElem?]
      simp only [List.getElem?_cons_zero, h0, decide_true, Bool.true_and]
      cases l[l.length - 1]? <;> rfl
theorem ordB_core (gs : List Got) : ordB gs gs.length = ordC (gs.map fun g => g.m.core) := by
  unfold ordB ordC
  rw [List.length_map]
  refine range_any fun i hi => ?_
  unfold ordAt ordAtC
  rw [List.getElem?_map, List.getElem?_map]
  cases gs[i]? with
  | none => rfl
  | some g => cases gs[i - 1]? with
    | none => rfl
    | some f => rfl
theorem lastBad_core (l : List Msg) (m : Msg) : lastBad l m = lastC (l.map Msg.core) m.core := by
  unfold lastBad lastC
  rw [List.getLast?_map]
  cases l.getLast? with
  | none => rfl
  | some x => rfl
def cntC (l : List Core) (q : Int) : Int := ((l.filter fun c => c.1 == q).length : Nat)
def depAtC (x : Core) (l : List Core) (q : Nat) : Bool := match x.2.2.2.2.2[q]? with
  | some n => decide (IntKind.i64.wrap n > cntC l q)
  | none => false
def depC (x : Core) (l : List Core) : Bool := (List.range x.2.2.2.2.2.length).any (depAtC x l)
def depsAtC (l : List Core) (i : Nat) : Bool := match l[i]? with
  | some g => depC g (l.take i)
  | none => false
def depsC (l : List Core) : Bool := (List.range l.length).any (depsAtC l)
theorem depsC_snoc (l : List Core) (x : Core) : depsC (l ++ [x]) = (depsC l || depC x l) := by
  unfold depsC
  rw [List.length_append, List.length_singleton, any_range]
  congr 1
  · refine range_any fun i hi => ?_
    unfold depsAtC
    rw [List.getElem?_append_left hi, List.take_append_of_le_length (by omega)]
  · unfold depsAtC
    rw [List.getElem?_append_right (Nat.le_refl _), Nat.sub_self, List.take_left']
    · rfl
    · rfl
theorem cntF_core (gs : List Got) (q : Int) : cntF gs q = cntC (gs.map fun g => g.m.core) q := by
  unfold cntF cntC; rw [List.filter_map, List.length_map]; rfl
theorem cntM_core (l : List Msg) (q : Int) : cntM l q = cntC (l.map Msg.core) q := by
  unfold cntM cntC; rw [List.filter_map, List.length_map]; rfl
theorem depB_core (g : Got) (gs : List Got) : depB g gs g.m.deps.length = depC g.m.core (gs.map fun g => g.m.core) := by
  unfold depB depC
  refine range_any fun i hi => ?_
  unfold depAt depAtC
  show (match g.m.deps[i]? with | some n => decide (IntKind.i64.wrap n > cntF gs i) | none => false) = match g.m.deps[i]? with | some n => decide (IntKind.i64.wrap n > cntC _ i) | none => false
  rw [cntF_core]
theorem depBM_core (m : Msg) (l : List Msg) : depBM m l m.deps.length = depC m.core (l.map Msg.core) := by
  unfold depBM depC
  refine range_any fun i hi => ?_
  unfold depAtM depAtC
  show (match m.deps[i]? with | some n => decide (IntKind.i64.wrap n > cntM l i) | none => false) = match m.deps[i]? with | some n => decide (IntKind.i64.wrap n > cntC _ i) | none => false
  rw [cntM_core]
theorem depsB_core (gs : List Got) : depsB gs gs.length = depsC (gs.map fun g => g.m.core) := by
  unfold depsB depsC
  rw [List.length_map]
  refine range_any fun i hi => ?_
  unfold depsAt depsAtC
  rw [List.getElem?_map, ← List.map_take]
  cases gs[i]? with
  | none => rfl
  | some g => exact depB_core g _

/-! ### The events that came -/
def sentC (es : List Ev) (k : Sent) : List Core := (es.filter fun y => isSend y && evSent y == k).map fun y => y.m.core
def seenC (es : List Ev) (w : Who) : Bool := es.any fun y => y.kind == 2 && evWho y == w
def coreAt (es : List Ev) (j : Nat) : Core := match es[j]? with
  | some y => y.m.core
  | none => (0, 0, 0, 0, [], [])
theorem sendsOf_pre (es : List Ev) (e : Ev) {n : Nat} (hn : n ≤ es.length) (k : Sent) : sendsOf (es ++ [e]) n k = sendsOf es n k := by
  unfold sendsOf
  refine List.filter_congr fun j hj => ?_
  rw [List.getElem?_append_left (by have := List.mem_range.1 hj; omega)]
theorem coreAt_pre (es : List Ev) (e : Ev) {j : Nat} (hj : j < es.length) : coreAt (es ++ [e]) j = coreAt es j := by
  unfold coreAt; rw [List.getElem?_append_left hj]
theorem coreAt_last (es : List Ev) (e : Ev) : coreAt (es ++ [e]) es.length = e.m.core := by
  unfold coreAt; rw [List.getElem?_append_right (Nat.le_refl _), Nat.sub_self]; rfl
theorem get_last (es : List Ev) (e : Ev) : (es ++ [e])[es.length]? = some e := by
  rw [List.getElem?_append_right (Nat.le_refl _), Nat.sub_self]; rfl
theorem sentC_eq (k : Sent) (es : List Ev) : (sendsOf es es.length k).map (coreAt es) = sentC es k :=
  snocInd (P := fun es => (sendsOf es es.length k).map (coreAt es) = sentC es k) rfl (fun es e ih => by
    have h1 : (sendsOf es es.length k).map (coreAt (es ++ [e])) = sentC es k := by
      rw [← ih]; exact List.map_congr_left fun j hj => coreAt_pre es e (sendsOf_lt hj)
    rw [List.length_append, List.length_singleton, sendsOf_succ (get_last es e)]
    have h2 : sentC (es ++ [e]) k = sentC es k ++ if isSend e = true ∧ k = evSent e then [e.m.core] else [] := by
      unfold sentC
      rw [List.filter_append, List.map_append]
      congr 1
      by_cases h : isSend e = true
      · by_cases hk : k = evSent e
        · subst hk; simp [h]
        · have : (evSent e == k) = false := by simp; exact fun q => hk q.symm
          simp [h, hk, this]
      · simp [h]
    rw [h2]
    by_cases h : isSend e = true ∧ k = evSent e
    · rw [if_pos h, if_pos h, List.map_append, sendsOf_pre es e (Nat.le_refl _), ← h.2, h1]
      simp [coreAt_last]
    · rw [if_neg h, if_neg h, sendsOf_pre es e (Nat.le_refl _), h1, List.append_nil]) es
def cntS (es : List Ev) (x : Ev) : Nat := ((sentC es (evSent x)).filter fun c => c == x.m.core).length
theorem sameAt_core {es : List Ev} {j : Nat} (hj : j < es.length) (m : Msg) : sameAt es j m = (coreAt es j == m.core) := by
  unfold sameAt coreAt
  rw [List.getElem?_eq_getElem hj]
  exact same_core _ _
theorem cnt_last (es : List Ev) (e x : Ev) : cnt (es ++ [e]) es.length x = cntS es x := by
  unfold cnt cntS
  rw [sendsOf_pre es e (Nat.le_refl _), ← sentC_eq, List.filter_map, List.length_map]
  congr 1
  refine List.filter_congr fun j hj => ?_
  have hlt := sendsOf_lt hj
  rw [sameAt_core (by simp; omega), coreAt_pre es e hlt]; rfl
theorem cnt_pre (es : List Ev) (e x : Ev) {n : Nat} (hn : n ≤ es.length) : cnt (es ++ [e]) n x = cnt es n x := by
  unfold cnt
  rw [sendsOf_pre es e hn]
  congr 1
  refine List.filter_congr fun j hj => ?_
  have hlt := sendsOf_lt hj
  unfold sameAt
  rw [List.getElem?_append_left (by omega)]
theorem behindB_snoc (es : List Ev) (e : Ev) : behindB (es ++ [e]) (es ++ [e]).length = (behindB es es.length || (e.kind == 2 && (cntS es e : Int) != 1)) := by
  rw [List.length_append, List.length_singleton, behindB_succ (get_last es e), cnt_last]
  congr 1
  unfold behindB
  refine range_any fun i hi => ?_
  unfold behindAt
  rw [List.getElem?_append_left hi]
  cases es[i]? with
  | none => rfl
  | some x => simp only []; rw [cnt_pre es e x (by omega)]
theorem seenB_eq (w : Who) (es : List Ev) : seenB es es.length w = seenC es w := by
  unfold seenB seenC
  rw [Bool.eq_iff_iff]; simp only [List.any_eq_true, List.mem_range]
  constructor
  · rintro ⟨j, hj, h⟩
    rw [List.getElem?_eq_getElem hj] at h
    exact ⟨_, List.getElem_mem hj, h⟩
  · rintro ⟨y, hy, h⟩
    obtain ⟨j, hj, e⟩ := List.mem_iff_getElem.1 hy
    exact ⟨j, hj, by rw [List.getElem?_eq_getElem hj, e]; exact h⟩
theorem seenB_pre (es : List Ev) (e : Ev) {n : Nat} (hn : n ≤ es.length) (w : Who) : seenB (es ++ [e]) n w = seenB es n w := by
  unfold seenB
  refine range_any fun j hj => ?_
  rw [List.getElem?_append_left (by omega)]
theorem onceB_snoc (es : List Ev) (e : Ev) : onceB (es ++ [e]) (es ++ [e]).length = (onceB es es.length || (e.kind == 2 && seenC es (evWho e))) := by
  rw [List.length_append, List.length_singleton, onceB_succ (get_last es e), seenB_pre es e (Nat.le_refl _), seenB_eq]
  congr 1
  unfold onceB
  refine range_any fun i hi => ?_
  unfold onceAt
  rw [List.getElem?_append_left hi]
  cases es[i]? with
  | none => rfl
  | some x => simp only []; rw [seenB_pre es e (by omega)]

/-! ### Pairs of stays -/
theorem pairs_irr (a : JSt) : pairB a a = false := by unfold pairB pairs; simp
theorem pairB_comm (a b : JSt) : pairB a b = pairB b a := by
  unfold pairB pairs sames
  rw [bne_comm (a := a.conf), BEq.comm (a := a.proc), bne_comm (a := transNew a.trans), bne_comm (a := transMem a.trans), BEq.comm (a := (partOf a false).map Msg.core), BEq.comm (a := (partOf a true).map Msg.core)]
  simp only [bne]
  cases (b.conf == a.conf) <;> cases (b.proc == a.proc) <;> cases a.next.isNone <;> cases b.next.isNone <;> cases a.trans.isNone <;> cases b.trans.isNone <;> rfl
theorem tog5_all (ss : List JSt) : tog5 ss ss.length = any2 pairB ss := by
  rw [Bool.eq_iff_iff, any2_iff]
  unfold tog5
  simp only [List.any_eq_true, List.mem_range]
  constructor
  · rintro ⟨i, hi, h⟩
    rw [List.getElem?_eq_getElem hi] at h
    obtain ⟨b, hb, h⟩ := List.any_eq_true.1 h
    exact ⟨_, b, List.getElem_mem hi, List.mem_of_mem_take hb, h⟩
  · rintro ⟨a, b, ha, hb, h⟩
    obtain ⟨i, hi, rfl⟩ := List.mem_iff_getElem.1 ha
    obtain ⟨j, hj, rfl⟩ := List.mem_iff_getElem.1 hb
    have mt : ∀ i j (hi : i < ss.length) (hj : j < ss.length), j < i → ss[j] ∈ ss.take i := fun i j hi hj hlt => List.mem_iff_getElem?.2 ⟨j, by rw [List.getElem?_take, if_pos hlt, List.getElem?_eq_getElem hj]⟩
    rcases Nat.lt_trichotomy i j with hlt | rfl | hlt
    · refine ⟨j, hj, ?_⟩
      rw [List.getElem?_eq_getElem hj]
      exact List.any_eq_true.2 ⟨_, mt j i hj hi hlt, by rw [pairB_comm]; exact h⟩
    · rw [pairs_irr] at h; cases h
    · refine ⟨i, hi, ?_⟩
      rw [List.getElem?_eq_getElem hi]
      exact List.any_eq_true.2 ⟨_, mt i j hi hj hlt, h⟩
theorem tog6_all (ss : List JSt) : tog6 ss ss.length = any2 safeOn ss := by unfold tog6; rw [List.take_length]; rfl
end Go.Cs
