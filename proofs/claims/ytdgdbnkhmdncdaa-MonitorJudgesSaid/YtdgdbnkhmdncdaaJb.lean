/- What the judge says of a trace that was gone through. -/
import Derived.Test.YtdgdbnkhmdncdaaJl
import Derived.Test.YtdgdbnkhmdncdaaGwT
set_option linter.unusedSectionVars false
set_option linter.unusedSimpArgs false
set_option linter.unusedVariables false
namespace Go.Cs
open Go Go.Gw
variable [Env]
def isSend (y : Ev) : Bool := y.kind == 1 && y.proc == y.m.frm
def evSent (y : Ev) : Sent := sentOf y.conf y.m
def evWho (y : Ev) : Who := (y.proc, evSent y)
def sendsOf (es : List Ev) (n : Nat) (k : Sent) : List Nat := (List.range n).filter fun j => match es[j]? with
  | some y => isSend y && evSent y == k
  | none => false
def sameAt (es : List Ev) (j : Nat) (m : Msg) : Bool := match es[j]? with
  | some y => same y.m m
  | none => false
def cnt (es : List Ev) (n : Nat) (x : Ev) : Nat := ((sendsOf es n (evSent x)).filter fun j => sameAt es j x.m).length
def behindAt (es : List Ev) (i : Nat) : Bool := match es[i]? with
  | some x => x.kind == 2 && (cnt es i x : Int) != 1
  | none => false
def behindB (es : List Ev) (n : Nat) : Bool := (List.range n).any (behindAt es)
def seenB (es : List Ev) (n : Nat) (w : Who) : Bool := (List.range n).any fun j => match es[j]? with
  | some y => y.kind == 2 && evWho y == w
  | none => false
def onceAt (es : List Ev) (i : Nat) : Bool := match es[i]? with
  | some x => x.kind == 2 && seenB es i (evWho x)
  | none => false
def onceB (es : List Ev) (n : Nat) : Bool := (List.range n).any (onceAt es)
theorem any_range (f : Nat → Bool) (n : Nat) : (List.range (n + 1)).any f = ((List.range n).any f || f n) := by simp [List.range_succ]
theorem sendsOf_succ {es : List Ev} {n : Nat} {e : Ev} (h : es[n]? = some e) (k : Sent) : sendsOf es (n + 1) k = if isSend e = true ∧ k = evSent e then sendsOf es n (evSent e) ++ [n] else sendsOf es n k := by
  unfold sendsOf
  rw [List.range_succ, List.filter_append]
  simp only [List.filter_cons, List.filter_nil, h]
  by_cases h1 : isSend e = true
  · by_cases h2 : k = evSent e
    · subst h2; simp [h1]
    · have : (evSent e == k) = false := by simp; exact fun q => h2 q.symm
      simp [h1, h2, this]
  · simp [h1]
theorem sendsOf_lt {es : List Ev} {n : Nat} {k : Sent} {j : Nat} (h : j ∈ sendsOf es n k) : j < n := by
  have := (List.mem_filter.1 h).1
  exact List.mem_range.1 this
theorem sendsOf_len (es : List Ev) (n : Nat) (k : Sent) : (sendsOf es n k).length ≤ n := by
  have := List.length_filter_le (fun j => match es[j]? with
  | some y => isSend y && evSent y == k
  | none => false) (List.range n)
  rw [List.length_range] at this
  exact this
def idxC (j : Nat) : List Value := [.int .i64 (j : Nat)]
theorem idxC_len (j : Nat) : (idxC j).length = 1 := rfl
theorem behindB_succ {es : List Ev} {i : Nat} {e : Ev} (h : es[i]? = some e) : behindB es (i + 1) = (behindB es i || (e.kind == 2 && (cnt es i e : Int) != 1)) := by
  rw [behindB, any_range, behindB, behindAt, h]
theorem sendsOf_not {es : List Ev} {i : Nat} {e : Ev} (h : es[i]? = some e) (hn : isSend e = false) (k : Sent) : sendsOf es (i + 1) k = sendsOf es i k := by
  rw [sendsOf_succ h, hn]; simp
theorem sameAt_some {es : List Ev} {j : Nat} {y : Ev} (h : es[j]? = some y) (m : Msg) : sameAt es j m = same y.m m := by rw [sameAt, h]
theorem filt_take {X : Type} {l : List X} {n : Nat} {x : X} (h : l[n]? = some x) (f : X → Bool) : ((l.take (n + 1)).filter f).length = ((l.take n).filter f).length + (if f x then 1 else 0) := by
  rw [List.take_add_one, h, List.filter_append, List.length_append]
  congr 1
  simp only [Option.toList_some, List.filter_cons, List.filter_nil]
  cases f x <;> rfl
def cmpK (a b : Msg) : Int := orI (cmpI a.stamp b.stamp) (cmpI a.frm b.frm)
def cntF (gs : List Got) (q : Int) : Int := ((gs.filter fun g => g.m.frm == q).length : Nat)
def depAt (g : Got) (pre : List Got) (q : Nat) : Bool := match g.m.deps[q]? with
  | some n => decide (IntKind.i64.wrap n > cntF pre q)
  | none => false
def depB (g : Got) (pre : List Got) (n : Nat) : Bool := (List.range n).any (depAt g pre)
def ordAt (gs : List Got) (i : Nat) : Bool := match gs[i]? with
  | some g => decide (0 < i) && match gs[i - 1]? with
    | some f => decide (cmpK f.m g.m ≥ 0)
    | none => false
  | none => false
def ordB (gs : List Got) (n : Nat) : Bool := (List.range n).any (ordAt gs)
def depsAt (gs : List Got) (i : Nat) : Bool := match gs[i]? with
  | some g => depB g (gs.take i) g.m.deps.length
  | none => false
def depsB (gs : List Got) (n : Nat) : Bool := (List.range n).any (depsAt gs)
def once3 (ss : List JSt) (n : Nat) : Bool := (ss.take n).any fun s => ordB s.gots s.gots.length
def once4 (ss : List JSt) (n : Nat) : Bool := (ss.take n).any fun s => depsB s.gots s.gots.length
theorem ordAt_zero (gs : List Got) : ordAt gs 0 = false := by
  unfold ordAt
  cases gs[0]? <;> simp
theorem ordAt_some {gs : List Got} {i : Nat} {f g : Got} (hg : gs[i]? = some g) (hf : gs[i - 1]? = some f) (hi : 0 < i) : ordAt gs i = decide (cmpK f.m g.m ≥ 0) := by
  simp only [ordAt, hg, hf, hi, decide_true, Bool.true_and]
theorem cntF_nil (q : Int) : cntF [] q = 0 := rfl
theorem cntF_bd (gs : List Got) (q : Int) : 0 ≤ cntF gs q ∧ cntF gs q ≤ (gs.length : Int) := by
  have := List.length_filter_le (fun g : Got => g.m.frm == q) gs
  unfold cntF; omega
theorem cntF_succ {gs : List Got} {i : Nat} {g : Got} (hg : gs[i]? = some g) (q : Int) : cntF (gs.take (i + 1)) q = if q = g.m.frm then cntF (gs.take i) q + 1 else cntF (gs.take i) q := by
  unfold cntF
  rw [filt_take hg]
  by_cases e : q = g.m.frm
  · subst e; simp
  · have : (g.m.frm == q) = false := by simp; exact fun h => e h.symm
    simp [e, this]
def CntIs (al : List (Int × Value)) (gs : List Got) : Prop := ∀ q, (Gw.look al q).getD (.int .i64 0) = .int .i64 (cntF gs q)
theorem CntIs.put {al : List (Int × Value)} {gs : List Got} {i : Nat} {g : Got} (h : CntIs al (gs.take i)) (hg : gs[i]? = some g) : CntIs (Gw.put al g.m.frm (.int .i64 (cntF (gs.take i) g.m.frm + 1))) (gs.take (i + 1)) := fun q => by
  rw [look_put, cntF_succ hg]
  by_cases e : g.m.frm = q
  · subst e; simp
  · rw [if_neg e, if_neg fun h => e h.symm]; exact h q
def SeenIs (al : List (Who × Value)) (es : List Ev) (n : Nat) : Prop := ∀ w, (Gw.look al w).getD (.bool false) = .bool (seenB es n w)
theorem seenB_succ {es : List Ev} {i : Nat} {e : Ev} (h : es[i]? = some e) (w : Who) : seenB es (i + 1) w = (seenB es i w || (e.kind == 2 && evWho e == w)) := by
  rw [seenB, any_range, seenB, h]
theorem SeenIs.put {al : List (Who × Value)} {es : List Ev} {i : Nat} {e : Ev} (h : SeenIs al es i) (he : es[i]? = some e) (hk : (e.kind == 2) = true) : SeenIs (Gw.put al (evWho e) (.bool true)) es (i + 1) := fun w => by
  rw [look_put, seenB_succ he, hk]
  by_cases e : evWho e = w
  · subst e; simp
  · rw [if_neg e, h w]; simp [e]
theorem SeenIs.skip {al : List (Who × Value)} {es : List Ev} {i : Nat} {e : Ev} (h : SeenIs al es i) (he : es[i]? = some e) (hk : (e.kind == 2) = false) : SeenIs al es (i + 1) := fun w => by
  rw [h w, seenB_succ he, hk]; simp
theorem onceB_succ {es : List Ev} {i : Nat} {e : Ev} (h : es[i]? = some e) : onceB es (i + 1) = (onceB es i || (e.kind == 2 && seenB es i (evWho e))) := by
  rw [onceB, any_range, onceB, onceAt, h]
theorem ordB_succ (gs : List Got) (i : Nat) : ordB gs (i + 1) = (ordB gs i || ordAt gs i) := any_range _ _
theorem depsB_succ {gs : List Got} {i : Nat} {g : Got} (h : gs[i]? = some g) : depsB gs (i + 1) = (depsB gs i || depB g (gs.take i) g.m.deps.length) := by
  rw [depsB, any_range, depsB, depsAt, h]
theorem depB_succ {g : Got} {pre : List Got} {i : Nat} {n : Int} (h : g.m.deps[i]? = some n) : depB g pre (i + 1) = (depB g pre i || decide (IntKind.i64.wrap n > cntF pre i)) := by
  rw [depB, any_range, depB, depAt, h]
def partOf (s : JSt) (tr : Bool) : List Msg := (s.gots.filter fun g => g.tr == tr).map (·.m)
def transMem (t : EvR) : Int := match t with
  | none => 0
  | some (_, x) => x.mem
def pairs (a b : JSt) : Bool := !(a.conf != b.conf || a.proc == b.proc || a.next.isNone || b.next.isNone || a.trans.isNone || b.trans.isNone || transNew a.trans != transNew b.trans)
def pairB (a b : JSt) : Bool := pairs a b && (transMem a.trans != transMem b.trans || !sames (partOf a false) (partOf b false) || !sames (partOf a true) (partOf b true))
def owesAt (a b : JSt) (g : Got) : Bool := g.m.svc == 2 && has (if g.tr then transMem a.trans else a.mem) b.proc && !(b.gots.any fun h => same h.m g.m)
def safeB (a b : JSt) (n : Nat) : Bool := (a.gots.take n).any (owesAt a b)
def safeOn (a b : JSt) : Bool := (a.conf == b.conf && b.next.isSome) && safeB a b a.gots.length
def tog5 (ss : List JSt) (n : Nat) : Bool := (List.range n).any fun i => match ss[i]? with
  | some a => (ss.take i).any fun b => pairB a b
  | none => false
def tog6 (ss : List JSt) (n : Nat) : Bool := (ss.take n).any fun a => ss.any fun b => safeOn a b
theorem any_take {X : Type} {l : List X} {n : Nat} {x : X} (h : l[n]? = some x) (f : X → Bool) : (l.take (n + 1)).any f = ((l.take n).any f || f x) := by
  rw [List.take_add_one, h, List.any_append]; simp
theorem once3_succ {ss : List JSt} {n : Nat} {s : JSt} (h : ss[n]? = some s) : once3 ss (n + 1) = (once3 ss n || ordB s.gots s.gots.length) := any_take h _
theorem once4_succ {ss : List JSt} {n : Nat} {s : JSt} (h : ss[n]? = some s) : once4 ss (n + 1) = (once4 ss n || depsB s.gots s.gots.length) := any_take h _
theorem safeB_succ {a b : JSt} {n : Nat} {g : Got} (h : a.gots[n]? = some g) : safeB a b (n + 1) = (safeB a b n || owesAt a b g) := any_take h _
theorem tog5_succ {ss : List JSt} {n : Nat} {a : JSt} (h : ss[n]? = some a) : tog5 ss (n + 1) = (tog5 ss n || (ss.take n).any fun b => pairB a b) := by
  rw [tog5, any_range, tog5, h]
theorem tog6_succ {ss : List JSt} {n : Nat} {a : JSt} (h : ss[n]? = some a) : tog6 ss (n + 1) = (tog6 ss n || ss.any fun b => safeOn a b) := any_take h _
/-- The rules that a trace breaks. -/
def judged (es : List Ev) (q : Int) : Bool := ((through es).bad q || (q == 2 && behindB es es.length)) || (q == 3 && (onceB es es.length || once3 (through es).stays (through es).stays.length)) || (q == 4 && once4 (through es).stays (through es).stays.length)
  || (q == 5 && tog5 (through es).stays (through es).stays.length) || (q == 6 && tog6 (through es).stays (through es).stays.length)
/-- The least rule that is broken. -/
def least (f : Int → Bool) : Int := if f 1 then 1 else if f 2 then 2 else if f 3 then 3 else if f 4 then 4 else if f 5 then 5 else if f 6 then 6 else 0
def evsOf (es : List Ev) : Int := least (judged es)
theorem least_at {f : Int → Bool} {r : Nat} (hr : f r = true) (h1 : 1 ≤ r) (h2 : r ≤ 6) (h : ∀ q : Nat, 1 ≤ q → q < r → f q = false) : least f = r := by
  have g : ∀ q : Nat, q < 7 → 1 ≤ q → q < r → f (q : Nat) = false := fun q _ a b => h q a b
  have e1 := g 1 (by omega) (by omega); have e2 := g 2 (by omega) (by omega); have e3 := g 3 (by omega) (by omega)
  have e4 := g 4 (by omega) (by omega); have e5 := g 5 (by omega) (by omega)
  simp only [Int.cast_ofNat_Int] at e1 e2 e3 e4 e5
  unfold least
  obtain rfl | rfl | rfl | rfl | rfl | rfl : r = 1 ∨ r = 2 ∨ r = 3 ∨ r = 4 ∨ r = 5 ∨ r = 6 := by omega
  all_goals simp_all
theorem least_none {f : Int → Bool} (h : ∀ q : Nat, 1 ≤ q → q < 7 → f q = false) : least f = 0 := by
  have e1 := h 1 (by omega) (by omega); have e2 := h 2 (by omega) (by omega); have e3 := h 3 (by omega) (by omega)
  have e4 := h 4 (by omega) (by omega); have e5 := h 5 (by omega) (by omega); have e6 := h 6 (by omega) (by omega)
  simp only [Int.cast_ofNat_Int] at e1 e2 e3 e4 e5 e6
  unfold least
  simp_all
end Go.Cs
