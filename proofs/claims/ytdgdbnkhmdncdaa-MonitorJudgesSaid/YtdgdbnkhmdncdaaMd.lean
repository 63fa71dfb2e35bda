/- What the monitor keeps of a trace, as plain data. -/
import Derived.Test.YtdgdbnkhmdncdaaJb
set_option linter.unusedSectionVars false
set_option linter.unusedSimpArgs false
set_option linter.unusedVariables false
namespace Go.Cs
open Go Go.Gw
variable [Env]
/-- A stay, as the monitor keeps it; its EvTrans with the block in which it lies. -/
structure MSt where
  proc : Int
  conf : Conf
  mem : Int
  p0 : List Msg
  p1 : List Msg
  trans : EvR
  went : Bool
structure MTr where
  stays : List MSt
  sends : Sent → List Msg
  seen : Who → Bool
  members : Conf → Option Int
  live : Int → Bool
  now : Int → Option Nat
  bad : Int → Bool
  len : Int
  at_ : Int
  rule : Int
def MTr.init : MTr := ⟨[], fun _ => [], fun _ => false, fun _ => none, fun _ => false, fun _ => none, fun _ => false, 0, 0, 0⟩
def MTr.brk (M : MTr) (r : Int) (is : Bool) : MTr := { M with bad := fun q => M.bad q || (q == r && is) }
def brkI (br r : Int) (is : Bool) : Int := if is && (br == 0 || decide (r < br)) then r else br
def MSt.all (s : MSt) : List Msg := s.p0 ++ s.p1
def owesM (mem : Int) (b : MSt) (m : Msg) : Bool := m.svc == 2 && has mem b.proc && !(b.all.any fun y => same m y)
def clo6 (b o : MSt) : Bool := o.conf == b.conf && (o.p0.any (owesM o.mem b) || (o.trans.isSome && o.p1.any (owesM (transMem o.trans) b)))
def pairsM (b o : MSt) : Bool := !(!o.went || o.proc == b.proc || o.trans.isNone || b.trans.isNone || (o.conf, transNew o.trans) != (b.conf, transNew b.trans))
def clo5 (b o : MSt) : Bool := o.conf == b.conf && (pairsM b o && (transMem o.trans != transMem b.trans || !sames o.p0 b.p0 || !sames o.p1 b.p1))
def MTr.close (M : MTr) (k : Nat) (b : MSt) : MTr :=
  let c : MSt := { b with went := true }
  { M with stays := M.stays.set k c, bad := fun q => (M.bad q || (q == 6 && (M.stays.set k c).any (clo6 c))) || (q == 5 && (M.stays.set k c).any (clo5 c)) }
def MSt.new (e : Ev) : MSt := ⟨e.proc, e.conf, e.mem, [], [], none, false⟩
def toldBad (t : Option Int) (m : Int) : Bool := match t with
  | none => false
  | some x => x != m
def MTr.reg (M : MTr) (e : Ev) : MTr :=
  let M1 := { ((M.brk 1 (!M.live e.proc || !has e.mem e.proc)).brk 1 (toldBad (M.members e.conf) e.mem)).brk 1 (M.stays.any fun o => o.conf == e.conf && o.proc == e.proc) with members := fun k => if k = e.conf then some e.mem else M.members k }
  let M2 := match M.now e.proc with
    | none => M1
    | some k => match M.stays[k]? with
      | none => M1
      | some b => ((M1.brk 1 (confLe e.conf b.conf)).brk 1 (transBad b.trans e)).close k b
  { M2 with stays := M2.stays ++ [MSt.new e], now := fun q => if q = e.proc then some M.stays.length else M.now q }
/-- The stay in which an event must stand. -/
def MTr.stayAt (M : MTr) (e : Ev) : Option (Nat × MSt) := match M.now e.proc with
  | none => none
  | some k => match M.stays[k]? with
    | none => none
    | some s => if !M.live e.proc || s.conf != e.conf then none else some (k, s)
def MTr.send (M : MTr) (e : Ev) : MTr :=
  let M1 : MTr := if e.proc == e.m.frm then { M with sends := fun k => if k = evSent e then M.sends (evSent e) ++ [e.m] else M.sends k } else M
  match M.stayAt e with
  | none => M1.brk 1 true
  | some (_, s) => M1.brk 1 s.trans.isSome
def lastBad (l : List Msg) (m : Msg) : Bool := match l.getLast? with
  | none => false
  | some x => decide (cmpK x m ≥ 0)
def cntM (l : List Msg) (q : Int) : Int := ((l.filter fun m => m.frm == q).length : Nat)
def depAtM (m : Msg) (l : List Msg) (q : Nat) : Bool := match m.deps[q]? with
  | some n => decide (IntKind.i64.wrap n > cntM l q)
  | none => false
def depBM (m : Msg) (l : List Msg) (n : Nat) : Bool := (List.range n).any (depAtM m l)
def sendN (M : MTr) (e : Ev) : Nat := ((M.sends (evSent e)).filter fun y => same e.m y).length
def MSt.got (s : MSt) (m : Msg) : MSt := if s.trans.isSome then { s with p1 := s.p1 ++ [m] } else { s with p0 := s.p0 ++ [m] }
def MSt.told (s : MSt) : Int := if s.trans.isSome then transMem s.trans else s.mem
def MTr.deliver (M : MTr) (e : Ev) : MTr :=
  let M1 : MTr := { (M.brk 2 ((sendN M e : Int) != 1)).brk 3 (M.seen (evWho e)) with seen := fun w => M.seen w || evWho e == w }
  match M.stayAt e with
  | none => M1.brk 1 true
  | some (k, s) =>
    let M2 := ((M1.brk 2 (e.new != transNew s.trans)).brk 3 (lastBad s.all e.m)).brk 4 (depBM e.m s.all e.m.deps.length)
    { M2.brk 6 ((M2.stays.set k (s.got e.m)).any fun b => (b.conf == s.conf && b.went) && owesM s.told b e.m) with stays := M2.stays.set k (s.got e.m) }
def MTr.trans (M : MTr) (n : Nat) (e : Ev) : MTr := match M.stayAt e with
  | none => M.brk 1 true
  | some (k, s) => { M.brk 1 s.trans.isSome with stays := M.stays.set k { s with trans := some (n, e) } }
def MTr.life (M : MTr) (e : Ev) : MTr := { M with live := fun q => if q = e.proc then e.kind == 5 else M.live q, now := fun q => if q = e.proc then none else M.now q }
def MTr.main (M : MTr) (n : Nat) (e : Ev) : MTr :=
  if e.kind = 5 ∨ e.kind = 6 then M.life e
  else if e.kind = 3 then M.reg e
  else if e.kind = 1 then M.send e
  else if e.kind = 2 then M.deliver e
  else if e.kind = 4 then M.trans n e
  else M
def MTr.mark (M : MTr) : MTr := if decide (least M.bad > 0) && M.at_ == 0 then { M with at_ := M.len, rule := least M.bad } else M
def MTr.add (M : MTr) (n : Nat) (e : Ev) : MTr := ({ M with len := M.len + 1 } : MTr).main n e |>.mark

/-! ### How it lies in memory -/
def trp (t : EvR) : Value := .pointer (t.map fun x => ⟨x.1, 0, none⟩)
def mstC (s : MSt) (a0 : Option Addr) (c0 : Nat) (a1 : Option Addr) (c1 cb : Nat) : Array Value :=
  #[.int .i64 s.proc, .int .u64 s.conf.1, .int .i64 s.conf.2, .int .u64 s.mem, .slice a0 s.p0.length c0, .slice a1 s.p1.length c1, .map (some cb), trp s.trans, .bool s.went]
def monC (sb eb mb : Nat) (sp : Option Addr) (sn sc lb nb : Nat) (br len at_ rule : Int) : Array Value :=
  #[.map (some sb), .map (some eb), .map (some mb), .slice sp sn sc, .map (some lb), .map (some nb), .int .i64 br, .int .i64 len, .int .i64 at_, .int .i64 rule]
def Ev.arr (e : Ev) : Array Value := #[.int .i64 e.kind, .int .i64 e.proc, .int .u64 e.conf.1, .int .i64 e.conf.2, .int .u64 e.new.1, .int .i64 e.new.2, .int .u64 e.mem,
  .int .i64 e.m.frm, .int .u32 e.m.seq, .int .u64 e.m.stamp, .int .i64 e.m.svc, .slice e.m.dp e.m.deps.length e.m.dc, .string e.m.pay,
  .int .u64 e.view.1, .int .u64 e.view.2.1.1, .int .i64 e.view.2.1.2, .int .u64 e.view.2.2, .slice e.np e.names.length e.nc, .string e.st]
def CntM (al : List (Int × Value)) (l : List Msg) : Prop := ∀ q, (Gw.look al q).getD (.int .i64 0) = .int .i64 (cntM l q)
theorem cntM_bd (l : List Msg) (q : Int) : 0 ≤ cntM l q ∧ cntM l q ≤ (l.length : Int) := by
  have := List.length_filter_le (fun m : Msg => m.frm == q) l
  unfold cntM; omega
theorem cntM_app (a b : List Msg) (q : Int) : cntM (a ++ b) q = cntM a q + cntM b q := by
  unfold cntM; rw [List.filter_append, List.length_append]; omega
theorem cntM_one (m : Msg) (q : Int) : cntM [m] q = if q = m.frm then 1 else 0 := by
  unfold cntM
  by_cases e : q = m.frm
  · subst e; simp
  · have : (m.frm == q) = false := by simp; exact fun h => e h.symm
    simp [this, e]
theorem CntM.put {al : List (Int × Value)} {l l' : List Msg} {m : Msg} (h : CntM al l) (hl : ∀ q, cntM l' q = cntM l q + cntM [m] q) : CntM (Gw.put al m.frm (.int .i64 (cntM l m.frm + 1))) l' := fun q => by
  rw [look_put, hl q, cntM_one]
  by_cases e : m.frm = q
  · subst e; simp
  · rw [if_neg e, if_neg fun h => e h.symm, h q]; simp
def least6 (b1 b2 b3 b4 b5 b6 : Bool) : Int := if b1 then 1 else if b2 then 2 else if b3 then 3 else if b4 then 4 else if b5 then 5 else if b6 then 6 else 0
theorem least_brk {f : Int → Bool} {br r : Int} (is : Bool) (h : br = least f) (h1 : 1 ≤ r) (h6 : r ≤ 6) : brkI br r is = least fun q => f q || (q == r && is) := by
  subst h
  cases is with
  | false =>
    have e : (fun q => f q || (q == r && false)) = f := by funext q; simp
    rw [e]; rfl
  | true =>
    obtain rfl | rfl | rfl | rfl | rfl | rfl : r = 1 ∨ r = 2 ∨ r = 3 ∨ r = 4 ∨ r = 5 ∨ r = 6 := by omega
    · have k : ∀ b1 b2 b3 b4 b5 b6 : Bool, brkI (least6 b1 b2 b3 b4 b5 b6) 1 true = least6 (b1 || ((1 : Int) == 1 && true)) (b2 || ((2 : Int) == 1 && true)) (b3 || ((3 : Int) == 1 && true)) (b4 || ((4 : Int) == 1 && true)) (b5 || ((5 : Int) == 1 && true)) (b6 || ((6 : Int) == 1 && true)) := by decide
      exact k (f 1) (f 2) (f 3) (f 4) (f 5) (f 6)
    · have k : ∀ b1 b2 b3 b4 b5 b6 : Bool, brkI (least6 b1 b2 b3 b4 b5 b6) 2 true = least6 (b1 || ((1 : Int) == 2 && true)) (b2 || ((2 : Int) == 2 && true)) (b3 || ((3 : Int) == 2 && true)) (b4 || ((4 : Int) == 2 && true)) (b5 || ((5 : Int) == 2 && true)) (b6 || ((6 : Int) == 2 && true)) := by decide
      exact k (f 1) (f 2) (f 3) (f 4) (f 5) (f 6)
    · have k : ∀ b1 b2 b3 b4 b5 b6 : Bool, brkI (least6 b1 b2 b3 b4 b5 b6) 3 true = least6 (b1 || ((1 : Int) == 3 && true)) (b2 || ((2 : Int) == 3 && true)) (b3 || ((3 : Int) == 3 && true)) (b4 || ((4 : Int) == 3 && true)) (b5 || ((5 : Int) == 3 && true)) (b6 || ((6 : Int) == 3 && true)) := by decide
      exact k (f 1) (f 2) (f 3) (f 4) (f 5) (f 6)
    · have k : ∀ b1 b2 b3 b4 b5 b6 : Bool, brkI (least6 b1 b2 b3 b4 b5 b6) 4 true = least6 (b1 || ((1 : Int) == 4 && true)) (b2 || ((2 : Int) == 4 && true)) (b3 || ((3 : Int) == 4 && true)) (b4 || ((4 : Int) == 4 && true)) (b5 || ((5 : Int) == 4 && true)) (b6 || ((6 : Int) == 4 && true)) := by decide
      exact k (f 1) (f 2) (f 3) (f 4) (f 5) (f 6)
    · have k : ∀ b1 b2 b3 b4 b5 b6 : Bool, brkI (least6 b1 b2 b3 b4 b5 b6) 5 true = least6 (b1 || ((1 : Int) == 5 && true)) (b2 || ((2 : Int) == 5 && true)) (b3 || ((3 : Int) == 5 && true)) (b4 || ((4 : Int) == 5 && true)) (b5 || ((5 : Int) == 5 && true)) (b6 || ((6 : Int) == 5 && true)) := by decide
      exact k (f 1) (f 2) (f 3) (f 4) (f 5) (f 6)
    · have k : ∀ b1 b2 b3 b4 b5 b6 : Bool, brkI (least6 b1 b2 b3 b4 b5 b6) 6 true = least6 (b1 || ((1 : Int) == 6 && true)) (b2 || ((2 : Int) == 6 && true)) (b3 || ((3 : Int) == 6 && true)) (b4 || ((4 : Int) == 6 && true)) (b5 || ((5 : Int) == 6 && true)) (b6 || ((6 : Int) == 6 && true)) := by decide
      exact k (f 1) (f 2) (f 3) (f 4) (f 5) (f 6)
theorem least_congr {f g : Int → Bool} (h : ∀ q, f q = g q) : least f = least g := by rw [funext h]
def SeenM (al : List (Who × Value)) (f : Who → Bool) : Prop := ∀ w, (Gw.look al w).getD (.bool false) = .bool (f w)
def MembM (al : List (Conf × Value)) (f : Conf → Option Int) : Prop := ∀ k, Gw.look al k = (f k).map fun x => .int .u64 x
theorem SeenM.put {al : List (Who × Value)} {f : Who → Bool} (h : SeenM al f) (w : Who) : SeenM (Gw.put al w (.bool true)) (fun v => f v || w == v) := fun v => by
  rw [look_put]
  by_cases e : w = v
  · subst e; simp
  · rw [if_neg e, h v]; simp [e]
theorem MembM.put {al : List (Conf × Value)} {f : Conf → Option Int} (h : MembM al f) (k : Conf) (x : Int) : MembM (Gw.put al k (.int .u64 x)) (fun v => if v = k then some x else f v) := fun v => by
  rw [look_put]
  by_cases e : k = v
  · subst e; simp
  · rw [if_neg e, h v]
    show _ = Option.map _ (if v = k then some x else f v)
    rw [if_neg fun h => e h.symm]
theorem stayAt_none {M : MTr} {e : Ev} (h : M.now e.proc = none) : M.stayAt e = none := by unfold MTr.stayAt; rw [h]
theorem stayAt_bad {M : MTr} {e : Ev} {k : Nat} {s : MSt} (h : M.now e.proc = some k) (hs : M.stays[k]? = some s) (hb : (!M.live e.proc || s.conf != e.conf) = true) : M.stayAt e = none := by unfold MTr.stayAt; simp only [h, hs, hb, if_true]
theorem stayAt_some {M : MTr} {e : Ev} {k : Nat} {s : MSt} (h : M.now e.proc = some k) (hs : M.stays[k]? = some s) (hb : (!M.live e.proc || s.conf != e.conf) = false) : M.stayAt e = some (k, s) := by unfold MTr.stayAt; simp only [h, hs, hb]; rfl
/-- What a stay of the monitor tells of memory that is only read. -/
structure MSt.wf (ρ : Heap) (T : TypeId) (N : Nat) (s : MSt) : Prop where
  trans : ∀ b e, s.trans = some (b, e) → ρ b = some (.cells e.arr T (0, 0))
  ok0 : ∀ m ∈ s.p0, m.ok ρ
  ok1 : ∀ m ∈ s.p1, m.ok ρ
  few : s.p0.length + s.p1.length ≤ N
structure MIs (ρ : Heap) (T : TypeId) (bs : List Nat) (M : MTr) (sl : List (Who × Value)) (ml : List (Conf × Value)) (lal nal : List (Int × Value)) (N : Nat) : Prop where
  len : bs.length = M.stays.length
  seen : SeenM sl M.seen
  memb : MembM ml M.members
  live : BadIs lal M.live
  now : NowIs nal bs M.now
  wf : ∀ s ∈ M.stays, s.wf ρ T N
  sends : ∀ k, (M.sends k).length ≤ N ∧ ∀ m ∈ M.sends k, m.ok ρ
  few : M.stays.length ≤ N
theorem MSt.wf.up {ρ ρ' : Heap} {T : TypeId} {N N' : Nat} {s : MSt} (h : s.wf ρ T N) (hs : Sub ρ ρ') (hN : N ≤ N') : s.wf ρ' T N' :=
  ⟨fun b e he => hs _ _ (h.trans b e he), fun m hm => (h.ok0 m hm).up hs, fun m hm => (h.ok1 m hm).up hs, Nat.le_trans h.few hN⟩
theorem MIs.up {ρ ρ' : Heap} {T : TypeId} {bs : List Nat} {M : MTr} {sl : List (Who × Value)} {ml : List (Conf × Value)} {lal nal : List (Int × Value)} {N N' : Nat} (h : MIs ρ T bs M sl ml lal nal N) (hs : Sub ρ ρ') (hN : N ≤ N') : MIs ρ' T bs M sl ml lal nal N' :=
  ⟨h.len, h.seen, h.memb, h.live, h.now, fun s hs' => (h.wf s hs').up hs hN, fun k => ⟨Nat.le_trans (h.sends k).1 hN, fun m hm => ((h.sends k).2 m hm).up hs⟩, Nat.le_trans h.few hN⟩
end Go.Cs
