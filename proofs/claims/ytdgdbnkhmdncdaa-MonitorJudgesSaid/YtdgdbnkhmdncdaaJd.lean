/- What the judge keeps of a trace, as plain data, and its rules. -/
import Derived.Test.YtdgdbnkhmdncdaaEv
import Derived.Test.YtdgdbnkhmdncdaaPure
set_option linter.unusedSectionVars false
set_option linter.unusedSimpArgs false
set_option linter.unusedVariables false
namespace Go.Cs
open Go.Gw
variable [Env]
abbrev EvR := Option (Nat × Ev)
/-- One of a life in a configuration. -/
structure JSt where
  proc : Int
  conf : Conf
  mem : Int
  gots : List Got
  trans : EvR
  next : EvR
  view : EvR
  viewAt : Int
  ready : EvR
  ups : List Msg
  out : Bool
  before : Option Nat
structure JTr where
  stays : List JSt
  bad : Int → Bool
  named : Int
  live : Int → Bool
  now : Int → Option Nat

/-! ### What it does -/
def JTr.init : JTr := ⟨[], fun _ => false, 0, fun _ => false, fun _ => none⟩
def JTr.brk (J : JTr) (r : Int) (is : Bool) : JTr := { J with bad := fun q => J.bad q || (q == r && is) }
def JTr.wrong (J : JTr) (r : Int) (is : Bool) : JTr := { J with named := if is && (J.named == 0 || decide (r < J.named)) then r else J.named }
def JTr.mod (J : JTr) (k : Nat) (g : JSt → JSt) : JTr := { J with stays := J.stays.modify k g }
def JTr.st (J : JTr) (q : Int) : Option JSt := (J.now q).bind fun k => J.stays[k]?
def JSt.new (i : Nat) (e : Ev) (bf : Option Nat) : JSt := ⟨e.proc, e.conf, e.mem, [], none, none, none, 0, none, [], false, bf⟩
/-- Does a stay's EvTrans fit what comes behind it? -/
def transBad (t : EvR) (e : Ev) : Bool := match t with
  | none => true
  | some (_, x) => x.new != e.conf || !isIn x.mem e.mem || !has x.mem e.proc
def confLe (a b : Conf) : Bool := decide (orI (cmpI a.1 b.1) (cmpI a.2 b.2) ≤ 0)
def JTr.reg (J : JTr) (i : Nat) (e : Ev) : JTr :=
  let bf := J.now e.proc
  let J1 := (J.brk 1 (!J.live e.proc || !has e.mem e.proc)).brk 1 (J.stays.any fun o => o.conf == e.conf && (o.mem != e.mem || o.proc == e.proc))
  let J2 := match bf with
    | none => J1
    | some k => match J.stays[k]? with
      | none => J1
      | some b => ((J1.mod k fun s => { s with next := some (i, e) }).brk 1 (confLe e.conf b.conf)).brk 1 (transBad b.trans e)
  { J2 with stays := J2.stays ++ [JSt.new i e bf], now := fun q => if q = e.proc then some J.stays.length else J.now q }
def transNew (t : EvR) : Conf := match t with
  | none => (0, 0)
  | some (_, x) => x.new
def JTr.inn (J : JTr) (i : Nat) (e : Ev) : JTr := match J.now e.proc with
  | none => J.brk 1 true
  | some k => match J.stays[k]? with
    | none => J.brk 1 true
    | some s => if !J.live e.proc || s.conf != e.conf then J.brk 1 true
      else if e.kind = 1 then J.brk 1 s.trans.isSome
      else if e.kind = 4 then (J.brk 1 s.trans.isSome).mod k fun s => { s with trans := some (i, e) }
      else if e.kind = 2 then (J.brk 2 (e.new != transNew s.trans)).mod k fun s => { s with gots := s.gots ++ [⟨i, e.m, s.trans.isSome⟩] }
      else J
def mineBad (s : JSt) (e : Ev) : Bool := match s.view with
  | none => true
  | some (_, v) => s.out || match e.names with
    | [y] => y.1 != e.proc || !v.names.any (fun x => x == y) || e.view != v.view
    | _ => true
def JTr.mineOn (J : JTr) (k : Nat) (s : JSt) (i : Nat) (e : Ev) : JTr :=
  if mineBad s e then J.wrong 3 true
  else if e.kind = 11 then (J.wrong 3 s.ready.isSome).mod k fun s => { s with ready := some (i, e) }
  else if e.kind = 8 then J.wrong 3 s.ready.isNone
  else if e.kind = 9 then (J.wrong 3 s.ready.isNone).mod k fun s => { s with ups := s.ups ++ [e.m] }
  else if e.kind = 12 then J.mod k fun s => { s with out := true }
  else J
/-- It is out since the next configuration began. -/
def late (e : Ev) (s : JSt) : Bool := e.kind == 12 && s.view.isNone && s.before.isSome
def JTr.mine (J : JTr) (i : Nat) (e : Ev) : JTr := match J.now e.proc with
  | none => J.wrong 3 true
  | some k0 => match J.stays[k0]? with
    | none => J
    | some s0 => match (if late e s0 then s0.before else some k0) with
      | none => J
      | some k => match J.stays[k]? with
        | none => J
        | some s => J.mineOn k s i e
def JTr.upp (J : JTr) (i : Nat) (e : Ev) : JTr :=
  if e.kind = 7 then match J.now e.proc with
    | none => J
    | some k => J.mod k fun s => { s with view := some (i, e), viewAt := i, ready := none, out := false }
  else if e.kind = 11 ∨ e.kind = 8 ∨ e.kind = 9 ∨ e.kind = 10 ∨ e.kind = 12 then J.mine i e
  else J
def JTr.step (J : JTr) (i : Nat) (e : Ev) : JTr :=
  if e.kind = 5 then { J with live := fun q => if q = e.proc then true else J.live q, now := fun q => if q = e.proc then none else J.now q }
  else if e.kind = 6 then { J with live := fun q => if q = e.proc then false else J.live q, now := fun q => if q = e.proc then none else J.now q }
  else if e.kind = 3 then J.reg i e
  else if e.kind = 1 ∨ e.kind = 2 ∨ e.kind = 4 then J.inn i e
  else J.upp i e
def throughFrom (J : JTr) (i : Nat) : List Ev → JTr
  | [] => J
  | e :: es => throughFrom (J.step i e) (i + 1) es
def through (es : List Ev) : JTr := throughFrom JTr.init 0 es
theorem throughFrom_snoc (e : Ev) : ∀ (es : List Ev) (J : JTr) (i : Nat), throughFrom J i (es ++ [e]) = (throughFrom J i es).step (i + es.length) e
  | [], J, i => rfl
  | x :: es, J, i => by
    show throughFrom (J.step i x) (i + 1) (es ++ [e]) = _
    rw [throughFrom_snoc e es, List.length_cons, show i + 1 + es.length = i + (es.length + 1) by omega]; rfl
theorem through_snoc (es : List Ev) (e : Ev) : through (es ++ [e]) = (through es).step es.length e := by
  rw [through, throughFrom_snoc, Nat.zero_add]; rfl

/-! ### How it lies in memory -/
def evp (p : Option Addr) (r : EvR) : Value := .pointer (r.bind fun x => p.map fun a => ⟨a.block, a.off + x.1 * 19, none⟩)
def blk (b : Option Nat) : Value := .pointer (b.map fun b => ⟨b, 0, none⟩)
def ptrC (b : Nat) : List Value := [.pointer (some ⟨b, 0, none⟩)]
theorem ptrC_len (b : Nat) : (ptrC b).length = 1 := rfl
def stayC (p : Option Addr) (bs : List Nat) (s : JSt) (gp : Option Addr) (gc : Nat) (up : Option Addr) (uc : Nat) : Array Value :=
  #[.int .i64 s.proc, .int .u64 s.conf.1, .int .i64 s.conf.2, .int .u64 s.mem, .slice gp s.gots.length gc, evp p s.trans, evp p s.next, evp p s.view, .int .i64 s.viewAt, evp p s.ready, .slice up s.ups.length uc, .bool s.out, blk (s.before.bind (bs[·]?))]
def traceC (p : Option Addr) (n c : Nat) (sp : Option Addr) (sn sc mb : Nat) (nm : Int) : Array Value := #[.slice p n c, .slice sp sn sc, .map (some mb), .int .i64 nm]
/-- What is told of events is of the trace. -/
structure JSt.wf (es : List Ev) (n : Nat) (s : JSt) : Prop where
  trans : ∀ i e, s.trans = some (i, e) → es[i]? = some e
  next : ∀ i e, s.next = some (i, e) → es[i]? = some e
  view : ∀ i e, s.view = some (i, e) → es[i]? = some e
  ready : ∀ i e, s.ready = some (i, e) → es[i]? = some e
  gots : ∀ g ∈ s.gots, ∃ e, es[g.at_]? = some e ∧ g.m = e.m
  ups : ∀ m ∈ s.ups, ∃ e ∈ es, m = e.m
  before : ∀ j, s.before = some j → j < n
  tr : ∀ g ∈ s.gots, g.tr = true → s.trans.isSome = true
theorem TraceIs.row {ρ : Heap} {p : Option Addr} {es : List Ev} (h : TraceIs ρ p es) {i : Nat} {e : Ev} (hi : es[i]? = some e) : ∃ b o cs T fz, p = some ⟨b, o, none⟩ ∧ ρ b = some (.cells cs T fz) ∧ i < es.length ∧ row cs (o + i * 19) 19 = some e.cells :=
  Rd.row Ev.cells_len (by decide) h.1 hi
/-- A map of what is so. -/
def BadIs (al : List (Int × Value)) (f : Int → Bool) : Prop := ∀ q, (Gw.look al q).getD (.bool false) = .bool (f q)
def NowIs (al : List (Int × Value)) (bs : List Nat) (f : Int → Option Nat) : Prop := ∀ q, match f q with
  | none => Gw.look al q = none
  | some i => ∃ b, bs[i]? = some b ∧ Gw.look al q = some (.pointer (some ⟨b, 0, none⟩))
theorem BadIs.nil : BadIs [] fun _ => false := fun _ => rfl
theorem BadIs.put {al : List (Int × Value)} {f : Int → Bool} (h : BadIs al f) (r : Int) (is : Bool) : BadIs (Gw.put al r (.bool is)) fun q => if q = r then is else f q := fun q => by
  rw [look_put]
  by_cases e : r = q
  · subst e; simp
  · rw [if_neg e]; show _ = Value.bool (if q = r then is else f q); rw [if_neg fun h => e h.symm]; exact h q
theorem BadIs.brk {al : List (Int × Value)} {f : Int → Bool} (h : BadIs al f) (r : Int) (is : Bool) : BadIs (if is then Gw.put al r (.bool true) else al) fun q => f q || (q == r && is) := by
  cases is with
  | false => intro q; simpa using h q
  | true =>
    intro q
    have := h.put r true q
    simp only [if_true]
    rw [this]
    by_cases e : q = r
    · subst e; simp
    · simp [e]
theorem BadIs.congr {al : List (Int × Value)} {f g : Int → Bool} (h : BadIs al f) (e : ∀ q, f q = g q) : BadIs al g := fun q => by rw [← e q]; exact h q
theorem NowIs.nil (bs : List Nat) : NowIs [] bs fun _ => none := fun _ => rfl
theorem NowIs.del {al : List (Int × Value)} {bs : List Nat} {f : Int → Option Nat} (hd : (al.map (·.1)).Nodup) (h : NowIs al bs f) (r : Int) : NowIs (Gw.del al r) bs fun q => if q = r then none else f q := fun q => by
  show match (if q = r then none else f q) with
    | none => _
    | some i => _
  by_cases e : q = r
  · subst e; rw [if_pos rfl]; simp only []; rw [look_del _ _ _ hd, if_pos rfl]
  · rw [if_neg e]
    have := h q
    rw [look_del _ _ _ hd, if_neg (fun h => e h.symm)]
    exact this
theorem NowIs.put {al : List (Int × Value)} {bs : List Nat} {f : Int → Option Nat} (h : NowIs al bs f) (r : Int) (b : Nat) : NowIs (Gw.put al r (.pointer (some ⟨b, 0, none⟩))) (bs ++ [b]) fun q => if q = r then some bs.length else f q := fun q => by
  show match (if q = r then some bs.length else f q) with
    | none => _
    | some i => _
  by_cases e : q = r
  · subst e; rw [if_pos rfl]; exact ⟨b, by simp, by rw [look_put, if_pos rfl]⟩
  · rw [if_neg e]
    have := h q
    rw [look_put, if_neg (fun h => e h.symm)]
    cases hf : f q with
    | none => rw [hf] at this; exact this
    | some i => rw [hf] at this; obtain ⟨c, h1, h2⟩ := this; exact ⟨c, by rw [List.getElem?_append_left (List.getElem?_eq_some_iff.1 h1).1]; exact h1, h2⟩
/-- All that the judge keeps, told of its memory. -/
structure JIs (es : List Ev) (bs : List Nat) (J : JTr) (al lal nal : List (Int × Value)) (N : Nat) : Prop where
  len : bs.length = J.stays.length
  bad : BadIs al J.bad
  live : BadIs lal J.live
  now : NowIs nal bs J.now
  wf : ∀ s ∈ J.stays, s.wf es J.stays.length
  few : J.stays.length ≤ N ∧ ∀ s ∈ J.stays, s.gots.length ≤ N ∧ s.ups.length ≤ N
end Go.Cs
