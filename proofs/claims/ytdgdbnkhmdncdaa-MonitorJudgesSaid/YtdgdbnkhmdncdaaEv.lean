/- Events and messages as plain data, and how they lie in cells. -/
import Derived.Test.YtdgdbnkhmdncdaaGwR
set_option linter.unusedSectionVars false
set_option linter.unusedSimpArgs false
set_option linter.unusedVariables false
namespace Go.Cs
open Go.Gw
variable [Env]
abbrev Conf := Int × Int
abbrev View := Int × Conf × Int
abbrev Name := Int × Int
abbrev Sent := Conf × Int × Int
abbrev Who := Int × Sent
def encConf (k : Conf) : Value := .agg #[.int .u64 k.1, .int .i64 k.2]
def encView (k : View) : Value := .agg #[.int .u64 k.1, .int .u64 k.2.1.1, .int .i64 k.2.1.2, .int .u64 k.2.2]
def encName (k : Name) : Value := .agg #[.int .i64 k.1, .int .u32 k.2]
def encSent (k : Sent) : Value := .agg #[.int .u64 k.1.1, .int .i64 k.1.2, .int .i64 k.2.1, .int .u32 k.2.2]
def encWho (k : Who) : Value := .agg #[.int .i64 k.1, .int .u64 k.2.1.1, .int .i64 k.2.1.2, .int .i64 k.2.2.1, .int .u32 k.2.2.2]
def encPass (k : Conf × Conf) : Value := .agg #[.int .u64 k.1.1, .int .i64 k.1.2, .int .u64 k.2.1, .int .i64 k.2.2]
theorem encConf_inj (a b : Conf) (h : encConf a = encConf b) : a = b := by
  obtain ⟨a1, a2⟩ := a; obtain ⟨b1, b2⟩ := b; simpa [encConf] using h
theorem encView_inj (a b : View) (h : encView a = encView b) : a = b := by
  obtain ⟨a1, ⟨a2, a3⟩, a4⟩ := a; obtain ⟨b1, ⟨b2, b3⟩, b4⟩ := b; simpa [encView, and_assoc] using h
theorem encName_inj (a b : Name) (h : encName a = encName b) : a = b := by
  obtain ⟨a1, a2⟩ := a; obtain ⟨b1, b2⟩ := b; simpa [encName] using h
theorem encSent_inj (a b : Sent) (h : encSent a = encSent b) : a = b := by
  obtain ⟨⟨a1, a2⟩, a3, a4⟩ := a; obtain ⟨⟨b1, b2⟩, b3, b4⟩ := b; simpa [encSent, and_assoc] using h
theorem encWho_inj (a b : Who) (h : encWho a = encWho b) : a = b := by
  obtain ⟨a0, ⟨a1, a2⟩, a3, a4⟩ := a; obtain ⟨b0, ⟨b1, b2⟩, b3, b4⟩ := b; simpa [encWho, and_assoc] using h
theorem encPass_inj (a b : Conf × Conf) (h : encPass a = encPass b) : a = b := by
  obtain ⟨⟨a1, a2⟩, a3, a4⟩ := a; obtain ⟨⟨b1, b2⟩, b3, b4⟩ := b; simpa [encPass, and_assoc] using h
theorem encConf_same (n : Nat) (k : Conf) : Instr.sameBits (n + 1) (encConf k) (encConf k) = true := by cases n <;> simp [encConf, Instr.sameBits]
theorem encView_same (n : Nat) (k : View) : Instr.sameBits (n + 1) (encView k) (encView k) = true := by cases n <;> simp [encView, Instr.sameBits]
theorem encName_same (n : Nat) (k : Name) : Instr.sameBits (n + 1) (encName k) (encName k) = true := by cases n <;> simp [encName, Instr.sameBits]
theorem encSent_same (n : Nat) (k : Sent) : Instr.sameBits (n + 1) (encSent k) (encSent k) = true := by cases n <;> simp [encSent, Instr.sameBits]
theorem encWho_same (n : Nat) (k : Who) : Instr.sameBits (n + 1) (encWho k) (encWho k) = true := by cases n <;> simp [encWho, Instr.sameBits]
theorem encPass_same (n : Nat) (k : Conf × Conf) : Instr.sameBits (n + 1) (encPass k) (encPass k) = true := by cases n <;> simp [encPass, Instr.sameBits]

/-- A message: what it says, and where its Deps lie. -/
structure Msg where
  frm : Int
  seq : Int
  stamp : Int
  svc : Int
  deps : List Int
  dp : Option Addr
  dc : Nat
  pay : ByteArray
structure Ev where
  kind : Int
  proc : Int
  conf : Conf
  new : Conf
  mem : Int
  m : Msg
  view : View
  names : List Name
  np : Option Addr
  nc : Nat
  st : ByteArray
def u32 (x : Int) : List Value := [.int .u32 x]
def i64 (x : Int) : List Value := [.int .i64 x]
def nameC (x : Name) : List Value := [.int .i64 x.1, .int .u32 x.2]
def Msg.cells (m : Msg) : List Value := [.int .i64 m.frm, .int .u32 m.seq, .int .u64 m.stamp, .int .i64 m.svc, .slice m.dp m.deps.length m.dc, .string m.pay]
def Msg.v (m : Msg) : Value := .agg #[.int .i64 m.frm, .int .u32 m.seq, .int .u64 m.stamp, .int .i64 m.svc, .slice m.dp m.deps.length m.dc, .string m.pay]
def Ev.cells (e : Ev) : List Value := [.int .i64 e.kind, .int .i64 e.proc, .int .u64 e.conf.1, .int .i64 e.conf.2, .int .u64 e.new.1, .int .i64 e.new.2, .int .u64 e.mem,
  .int .i64 e.m.frm, .int .u32 e.m.seq, .int .u64 e.m.stamp, .int .i64 e.m.svc, .slice e.m.dp e.m.deps.length e.m.dc, .string e.m.pay,
  .int .u64 e.view.1, .int .u64 e.view.2.1.1, .int .i64 e.view.2.1.2, .int .u64 e.view.2.2, .slice e.np e.names.length e.nc, .string e.st]
def Ev.v (e : Ev) : Value := .agg #[.int .i64 e.kind, .int .i64 e.proc, .int .u64 e.conf.1, .int .i64 e.conf.2, .int .u64 e.new.1, .int .i64 e.new.2, .int .u64 e.mem,
  .int .i64 e.m.frm, .int .u32 e.m.seq, .int .u64 e.m.stamp, .int .i64 e.m.svc, .slice e.m.dp e.m.deps.length e.m.dc, .string e.m.pay,
  .int .u64 e.view.1, .int .u64 e.view.2.1.1, .int .i64 e.view.2.1.2, .int .u64 e.view.2.2, .slice e.np e.names.length e.nc, .string e.st]
theorem u32_len (x : Int) : (u32 x).length = 1 := rfl
theorem i64_len (x : Int) : (i64 x).length = 1 := rfl
theorem nameC_len (x : Name) : (nameC x).length = 2 := rfl
theorem Msg.cells_len (m : Msg) : m.cells.length = 6 := rfl
theorem Ev.cells_len (e : Ev) : e.cells.length = 19 := rfl
/-- Its Deps read so. -/
def Msg.ok (ρ : Heap) (m : Msg) : Prop := Rd ρ 1 m.dp m.deps.length (m.deps.flatMap u32) ∧ m.deps.length * 4 ≤ 140737488355328
def Ev.ok (ρ : Heap) (e : Ev) : Prop := e.m.ok ρ ∧ Rd ρ 2 e.np e.names.length (e.names.flatMap nameC) ∧ e.names.length * 4 ≤ 140737488355328
/-- A trace in a slice. -/
def TraceIs (ρ : Heap) (p : Option Addr) (es : List Ev) : Prop := Rd ρ 19 p es.length (es.flatMap Ev.cells) ∧ ∀ e ∈ es, e.ok ρ
theorem Rd.up {σ τ : Heap} {m len : Nat} {p : Option Addr} {ys : List Value} (h : Rd σ m p len ys) (hs : Sub σ τ) : Rd τ m p len ys := Rd.sub h fun _ _ _ hb => hs _ _ hb
theorem Msg.ok.up {σ τ : Heap} {m : Msg} (h : m.ok σ) (hs : Sub σ τ) : m.ok τ := ⟨Rd.up h.1 hs, h.2⟩
theorem Ev.ok.up {σ τ : Heap} {e : Ev} (h : e.ok σ) (hs : Sub σ τ) : e.ok τ := ⟨h.1.up hs, Rd.up h.2.1 hs, h.2.2⟩
theorem TraceIs.up {σ τ : Heap} {p : Option Addr} {es : List Ev} (h : TraceIs σ p es) (hs : Sub σ τ) : TraceIs τ p es := ⟨Rd.up h.1 hs, fun e he => (h.2 e he).up hs⟩
/-- A message that a stay delivered: where in the trace, behind its EvTrans or ahead. -/
structure Got where
  at_ : Nat
  m : Msg
  tr : Bool
def Got.cells (g : Got) : List Value := [.int .i64 (g.at_ : Nat), .int .i64 g.m.frm, .int .u32 g.m.seq, .int .u64 g.m.stamp, .int .i64 g.m.svc, .slice g.m.dp g.m.deps.length g.m.dc, .string g.m.pay, .bool g.tr]
def Got.v (g : Got) : Value := .agg #[.int .i64 (g.at_ : Nat), .int .i64 g.m.frm, .int .u32 g.m.seq, .int .u64 g.m.stamp, .int .i64 g.m.svc, .slice g.m.dp g.m.deps.length g.m.dc, .string g.m.pay, .bool g.tr]
theorem Got.cells_len (g : Got) : g.cells.length = 8 := rfl
/-- Two messages say the same. -/
def same (a b : Msg) : Bool := a.frm == b.frm && a.seq == b.seq && a.stamp == b.stamp && a.svc == b.svc && a.pay.toList == b.pay.toList && a.deps == b.deps
abbrev Core := Int × Int × Int × Int × List UInt8 × List Int
def Msg.core (m : Msg) : Core := (m.frm, m.seq, m.stamp, m.svc, m.pay.toList, m.deps)
theorem same_iff (a b : Msg) : same a b = true ↔ a.core = b.core := by
  simp [same, Msg.core, and_assoc]
def sentOf (c : Conf) (m : Msg) : Sent := (c, m.frm, m.seq)
def keyOf (m : Msg) : Int × Int := (m.stamp, m.frm)
/-- .. two rows of them. -/
def sames (a b : List Msg) : Bool := a.map Msg.core == b.map Msg.core
end Go.Cs
