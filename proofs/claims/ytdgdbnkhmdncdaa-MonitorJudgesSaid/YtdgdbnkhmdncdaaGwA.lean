/- A calculus for walking one function: frames as lists of slots, a ghost heap that the world's heap must agree with, and the rules for control and for regions in any order. -/
import Derived.Orders
import Derived.Tactics
import Derived.KernelRfl
set_option linter.unusedSectionVars false
set_option linter.unusedSimpArgs false
set_option linter.unusedVariables false
namespace Go.Gw

/-! ### The ghost heap -/
abbrev Heap := Nat → Option Obj
/-- What a call leaves as it is, beside the heap: the system, and what was written out. -/
class Env where
  os : Os
  out : Array (Nat × ByteArray)
variable [Env]
def HSat (w : World) (σ : Heap) : Prop := ∀ b o, σ b = some o → w.heap[b]? = some o
structure Sat (w : World) (σ : Heap) : Prop where
  heap : HSat w σ
  os : w.os = Env.os
  out : w.output = Env.out
instance {w : World} {σ : Heap} : CoeFun (Sat w σ) (fun _ => ∀ b o, σ b = some o → w.heap[b]? = some o) := ⟨Sat.heap⟩
def upd (σ : Heap) (b : Nat) (o : Obj) : Heap := fun c => if c = b then some o else σ c
def Sub (σ τ : Heap) : Prop := ∀ b o, σ b = some o → τ b = some o

theorem Sub.rfl' (σ : Heap) : Sub σ σ := fun _ _ h => h
theorem Sub.trans {σ τ ρ : Heap} (h : Sub σ τ) (h' : Sub τ ρ) : Sub σ ρ := fun b o x => h' b o (h b o x)
theorem Sat.sub {w : World} {σ τ : Heap} (h : Sat w τ) (hs : Sub σ τ) : Sat w σ := ⟨fun b o x => h b o (hs b o x), h.os, h.out⟩
theorem upd_same (σ : Heap) (b : Nat) (o : Obj) : upd σ b o b = some o := by simp [upd]
theorem upd_ne (σ : Heap) {b c : Nat} (o : Obj) (h : c ≠ b) : upd σ b o c = σ c := by simp [upd, h]
theorem upd_get {σ : Heap} {b c : Nat} {o p : Obj} (h : σ c = some p) (hne : c ≠ b) : upd σ b o c = some p := by rw [upd_ne σ o hne]; exact h
/-- A block that is not of the heap is not one of it. -/
theorem ne_of_none {σ : Heap} {b c : Nat} {p : Obj} (hb : σ b = none) (h : σ c = some p) : c ≠ b := fun e => by subst e; rw [hb] at h; cases h
theorem Sub.upd {σ : Heap} {b : Nat} (o : Obj) (hb : σ b = none) : Sub σ (upd σ b o) := fun _ _ h => upd_get h (ne_of_none hb h)
/-- A new block. -/
structure New (σ : Heap) (b : Nat) (o : Obj) (τ : Heap) : Prop where
  none : σ b = none
  at_ : τ b = some o
  sub : Sub σ τ
/-- What was there but for one block is there. -/
def But (σ : Heap) (b : Nat) (τ : Heap) : Prop := ∀ c p, c ≠ b → σ c = some p → τ c = some p
theorem New.upd {σ : Heap} {b : Nat} (o : Obj) (h : σ b = Option.none) : New σ b o (upd σ b o) := ⟨h, upd_same _ _ _, Sub.upd o h⟩
theorem But.upd (σ : Heap) (b : Nat) (o : Obj) : But σ b (Gw.upd σ b o) := fun _ _ hne h => upd_get h hne
theorem Sub.but {σ τ : Heap} (h : Sub σ τ) (b : Nat) : But σ b τ := fun c p _ hc => h c p hc
theorem But.trans {σ τ ρ : Heap} {b : Nat} (h : But σ b τ) (h' : But τ b ρ) : But σ b ρ := fun c p hne hc => h' c p hne (h c p hne hc)
/-- A block that was not there before plays no part. -/
theorem But.own {σ τ ρ : Heap} {b : Nat} (h : But τ b ρ) (hs : Sub σ τ) (hb : σ b = none) : Sub σ ρ := fun c p hc => h c p (ne_of_none hb hc) (hs c p hc)
theorem But.sub {σ τ : Heap} {b : Nat} (h : But σ b τ) (hb : σ b = none) : Sub σ τ := fun c p hc => h c p (ne_of_none hb hc) hc
theorem upd_upd (σ : Heap) (b : Nat) (o p : Obj) : upd (upd σ b o) b p = upd σ b p := by funext c; by_cases h : c = b <;> simp [Gw.upd, h]
theorem Sat.drew {w : World} {σ : Heap} (h : Sat w σ) : Sat { w with drawn := w.drawn + 1 } σ := ⟨h.heap, h.os, h.out⟩
theorem Sat.lt {w : World} {σ : Heap} (h : Sat w σ) {b : Nat} {o : Obj} (hb : σ b = some o) : b < w.heap.size := (Array.getElem?_eq_some_iff.1 (h b o hb)).1
theorem Sat.fresh {w : World} {σ : Heap} (h : Sat w σ) : σ w.heap.size = none := by
  cases hb : σ w.heap.size with
  | none => rfl
  | some o => have := h.lt hb; omega
theorem Sat.push {w : World} {σ : Heap} (h : Sat w σ) (o : Obj) : Sat { w with heap := w.heap.push o } (Gw.upd σ w.heap.size o) := by
  refine ⟨?_, h.os, h.out⟩
  intro b p hb
  by_cases he : b = w.heap.size
  · subst he; simp [Gw.upd] at hb; subst hb; simp
  · rw [upd_ne σ o he] at hb
    have := h.lt hb
    simp only [Array.getElem?_push, show (b = w.heap.size) = False from eq_false he, if_false]
    exact h b p hb
/-- A block is written. -/
theorem Sat.modify {w : World} {σ : Heap} (h : Sat w σ) {b : Nat} {o : Obj} (f : Obj → Obj) (hb : σ b = some o) : Sat { w with heap := w.heap.modify b f } (Gw.upd σ b (f o)) := by
  refine ⟨?_, h.os, h.out⟩
  intro c p hc
  have h0 := h b o hb
  by_cases he : c = b
  · subst he; rw [upd_same] at hc; cases hc; simp [Array.getElem?_modify, h0]
  · rw [upd_ne σ _ he] at hc
    have := h c p hc
    simp [Array.getElem?_modify, Ne.symm he, this]
theorem Sat.setObj {w : World} {σ : Heap} (h : Sat w σ) {b : Nat} (o : Obj) {p : Obj} (hb : σ b = some p) : Sat { w with heap := w.heap.setIfInBounds b o } (Gw.upd σ b o) := by
  refine ⟨?_, h.os, h.out⟩
  intro c q hc
  by_cases he : c = b
  · subst he; rw [upd_same] at hc; cases hc; simp [h.lt hb]
  · rw [upd_ne σ _ he] at hc
    rw [Array.getElem?_setIfInBounds_ne (Ne.symm he)]; exact h c q hc

/-! ### A frame as a list of slots -/
abbrev Slots := List (Nat × Value)
/-- The value of a slot. -/
def lk : Slots → Nat → Option Value
  | [], _ => none
  | (d, v) :: l, i => match Nat.beq i d with
    | true => some v
    | false => lk l i
structure Fr (n : Nat) (l : Slots) (a : Act) : Prop where
  size : a.tmps.size = n
  defers : a.defers = []
  get : ∀ i v, lk l i = some v → a.tmps[i]? = some v

theorem lookup_cons (i d : Nat) (v : Value) (l : Slots) : lk ((d, v) :: l) i = if i = d then some v else lk l i := by
  simp only [lk]
  by_cases h : i = d
  · subst h; simp
  · have : Nat.beq i d = false := by cases hb : Nat.beq i d with | false => rfl | true => exact absurd (Nat.eq_of_beq_eq_true hb) h
    simp [this, h]

theorem Fr.put {n d : Nat} {l : Slots} {a : Act} {v : Value} (h : Fr n l a) (hd : d < n) : Fr n ((d, v) :: l) (a.put (some d) v) := by
  refine ⟨by simp [Act.put, h.size], by simp [Act.put, h.defers], fun i u hi => ?_⟩
  rw [lookup_cons] at hi
  by_cases he : i = d
  · subst he; simp at hi; subst hi; simp [Act.put, h.size, hd]
  · simp only [he, if_false] at hi
    simp only [Act.put]
    rw [Array.getElem?_setIfInBounds_ne (Ne.symm he)]; exact h.get i u hi

theorem Fr.putNone {n : Nat} {l : Slots} {a : Act} {v : Value} (h : Fr n l a) : Fr n l (a.put none v) := h

/-- All that one list says, another one says. -/
def SubL (l m : Slots) : Prop := ∀ i v, lk l i = some v → lk m i = some v
theorem SubL.nil (m : Slots) : SubL [] m := fun _ _ h => by cases h
theorem SubL.cons {i : Nat} {v : Value} {l m : Slots} (h : lk m i = some v) (hl : SubL l m) : SubL ((i, v) :: l) m := fun j u hj => by
  rw [lookup_cons] at hj
  by_cases he : j = i
  · subst he; simp at hj; subst hj; exact h
  · simp only [he, if_false] at hj; exact hl j u hj
theorem SubL.rfl' (l : Slots) : SubL l l := fun _ _ h => h
theorem SubL.trans {l m r : Slots} (h : SubL l m) (h' : SubL m r) : SubL l r := fun i v x => h' i v (h i v x)
/-- Keys of one list are none of another one's. -/
def apartB (l m : Slots) : Bool := l.all fun p => m.all fun q => !Nat.beq p.1 q.1
theorem SubL.skip {d : Nat} {v : Value} {l m : Slots} (h : ∀ q ∈ l, q.1 ≠ d) (hl : SubL l m) : SubL l ((d, v) :: m) := fun i u hi => by
  rw [lookup_cons]
  have hne : i ≠ d := by
    intro e; subst e
    have : ∀ (l : Slots), (∀ q ∈ l, q.1 ≠ i) → lk l i = none := by
      intro l
      induction l with
      | nil => intro _; rfl
      | cons p r ih => intro h; obtain ⟨a, b⟩ := p; rw [lookup_cons, if_neg (fun e => h (a, b) (by simp) e.symm)]; exact ih fun q hq => h q (by simp [hq])
    rw [this l h] at hi; cases hi
  rw [if_neg hne]; exact hl i u hi
theorem SubL.apart : ∀ (l m : Slots), apartB l m = true → SubL m (l ++ m)
  | [], m, _ => SubL.rfl' m
  | p :: l, m, h => by
    simp only [apartB, List.all_cons, Bool.and_eq_true] at h
    refine SubL.skip (fun q hq e => ?_) (SubL.apart l m (by simpa [apartB] using h.2))
    have := List.all_eq_true.1 h.1 q hq
    rw [e] at this
    simp at this
theorem SubL.drop (j : Nat) (l : Slots) (h : apartB (l.take j) (l.drop j) = true) : SubL (l.drop j) l := by
  have := SubL.apart _ _ h
  rwa [List.take_append_drop] at this
/-- Some slots alone. -/
def keep (ks : List Nat) : Slots → Slots
  | [] => []
  | (d, v) :: l => match ks.any (Nat.beq d) with
    | true => (d, v) :: keep ks l
    | false => keep ks l
theorem keep_lk (ks : List Nat) : ∀ (l : Slots) (i : Nat) (v : Value), lk (keep ks l) i = some v → lk l i = some v
  | [], _, _, h => h
  | (d, u) :: l, i, v, h => by
    simp only [keep] at h
    rw [lookup_cons]
    cases hk : ks.any (Nat.beq d) with
    | true =>
      rw [hk] at h; simp only at h
      rw [lookup_cons] at h
      by_cases he : i = d
      · simp [he] at h ⊢; exact h
      · simp only [he, if_false] at h ⊢; exact keep_lk ks l i v h
    | false =>
      rw [hk] at h; simp only at h
      by_cases he : i = d
      · subst he
        have : ∀ (l : Slots), lk (keep ks l) i = none := by
          intro l
          induction l with
          | nil => rfl
          | cons p r ih =>
            obtain ⟨a, b⟩ := p
            simp only [keep]
            cases hk2 : ks.any (Nat.beq a) with
            | true =>
              simp only; rw [lookup_cons]
              by_cases h2 : i = a
              · subst h2; rw [hk] at hk2; cases hk2
              · rw [if_neg h2]; exact ih
            | false => exact ih
        rw [this] at h; cases h
      · rw [if_neg he]; exact keep_lk ks l i v h
theorem SubL.keep (ks : List Nat) (l : Slots) : SubL (Gw.keep ks l) l := keep_lk ks l
theorem SubL.meet {d : Nat} {b c : Bool} {l m : Slots} (j : Nat) (ks : List Nat) (hv : lk l d = some (.bool b)) (he : b = c) (hj : Gw.keep ks (l.drop j) = m) (ha : apartB (l.take j) m = true) : SubL ((d, .bool c) :: m) l := by
  subst he
  refine SubL.cons hv ?_
  have h1 : SubL m (l.drop j) := hj ▸ SubL.keep ks (l.drop j)
  have h2 : ∀ (t : Slots), apartB t m = true → SubL m (t ++ l.drop j) := by
    intro t
    induction t with
    | nil => intro _; exact h1
    | cons p t ih =>
      intro h
      simp only [apartB, List.all_cons, Bool.and_eq_true] at h
      refine SubL.skip (fun q hq e => ?_) (ih (by simpa [apartB] using h.2))
      have := List.all_eq_true.1 h.1 q hq
      rw [e] at this
      simp at this
  have := h2 (l.take j) ha
  rwa [List.take_append_drop] at this
theorem Fr.sub {n : Nat} {l m : Slots} {a : Act} (h : Fr n m a) (hs : SubL l m) : Fr n l a := ⟨h.size, h.defers, fun i v hi => h.get i v (hs i v hi)⟩

/-- An operand's value. -/
def ev (l : Slots) : Operand → Option Value
  | .tmp t => lk l t
  | .const v => some v
  | .global g => some (.pointer (some ⟨g, 0, none⟩))
  | .func f => some (.func (.func f) #[] #[])

theorem Fr.eval {n : Nat} {l : Slots} {a : Act} (h : Fr n l a) {x : Operand} {v : Value} (hx : ev l x = some v) : a.eval x = v := by
  cases x with
  | tmp t => have := h.get t v hx; simp [Act.eval, Array.getD_eq_getD_getElem?, this]
  | const u => simpa [ev, Act.eval] using hx
  | global g => simpa [ev, Act.eval] using hx
  | func f => simpa [ev, Act.eval] using hx

/-! ### From a place in a function to its end -/
def base (f : FuncId) : Frame := { (default : Frame) with fn := f, kind := .normal }
def Goes (P : Program) (f : FuncId) (a : Act) (k : List Item) (w : World) (R : Ending → World → Prop) : Prop :=
  ∀ cs, ∃ e w' fr, R e w' ∧ Comes P (lone ((base f).at a k) cs w) (lone fr cs w') e ∧ fr.fn = f ∧ fr.leaving P w' e

section
variable {P : Program} {f : FuncId} {a a' : Act} {k k' : List Item} {w w' : World} {R : Ending → World → Prop}

theorem Goes.of_steps (h : ∀ cs, Steps P (lone ((base f).at a k) cs w) (lone ((base f).at a' k') cs w')) (h' : Goes P f a' k' w' R) : Goes P f a k w R :=
  fun cs => let ⟨e, w₂, fr, hR, hc, hf, hl⟩ := h' cs; ⟨e, w₂, fr, hR, hc.of_steps (h cs), hf, hl⟩

/-- What is asked where a piece of code ends. -/
def Qk (P : Program) (f : FuncId) (k : List Item) (R : Ending → World → Prop) : Exit → Act → World → Prop
  | .normal, a, w => Goes P f a k w R
  | .panic chain, a, w => a.defers = [] ∧ (∃ fn, P.funcs[f]? = some fn) ∧ R (.panicked chain) w
  | _, _, _ => False

theorem Goes.of_arrives {it : Item} (h : ∀ cs, ∃ e a' w', Qk P f k R e a' w' ∧ Arrives P (lone ((base f).at a (it :: k)) cs w) (base f) k cs e a' w') : Goes P f a (it :: k) w R := by
  intro cs
  obtain ⟨e, a', w', hq, harr⟩ := h cs
  cases e with
  | normal =>
    obtain ⟨e, w₂, fr, hR, hc, hf, hl⟩ := hq cs
    exact ⟨e, w₂, fr, hR, hc.of_steps harr, hf, hl⟩
  | panic chain =>
    obtain ⟨hd, hf, hR⟩ := hq
    obtain ⟨todo, hs⟩ := harr
    exact ⟨.panicked chain, w', _, hR, hs, rfl, rfl, hd, hf⟩
  | exit id => exact hq.elim
  | goto l => exact hq.elim
  | ret => exact hq.elim
  | outgrown => exact hq.elim

theorem Goes.of_wp {c : Code} (h : c.wp P (Qk P f k R) a w) : Goes P f a (.code c :: k) w R := Goes.of_arrives fun cs => h (base f) k cs

theorem Goes.of_ops {ops : Array Oper} {l : List Nat} (h : wpOps P ops (Qk P f k R) l a w) : Goes P f a (.inRegion ops l :: k) w R := Goes.of_arrives fun cs => wp_ops l a w h (base f) k cs

theorem calls_of_goes {fn : Func} {c : Code} {args : Array Value} (hf : P.funcs[f]? = some fn) (hb : fn.body = some c)
    (h : Goes P f { tmps := args ++ Array.replicate (fn.ntmps - args.size) undef, defers := [] } [.code c] w R) : Calls P f args w R := by
  intro cs
  have henter : Frame.enter P f args .normal = (base f).at { tmps := args ++ Array.replicate (fn.ntmps - args.size) undef, defers := [] } [.code c] := by
    simp [Frame.enter, Frame.at, hf, hb, base]
  rw [henter]; exact h cs

theorem Goes.ret {fn : Func} {v : Value} {todo : List Item} (ht : todo = [] ∨ ∃ k, todo = .code .ret :: k) (hf : P.funcs[f]? = some fn) (hd : a.defers = []) (hr : (results fn a.tmps).run P w = .ok v w) (hR : R (.returned v) w) : Goes P f a todo w R := by
  intro cs
  refine ⟨.returned v, w, { (base f).at a todo with mode := .returning }, hR, ?_, rfl, rfl, hd, rfl, fn, hf, hr⟩
  rcases ht with rfl | ⟨k, rfl⟩
  · exact .one step_end
  · exact .one step_ret
end

/-! ### The judgement -/
/-- The function ends by returning a value, with a heap of which something holds. -/
def Ret (Φ : Value → Heap → Prop) : Ending → World → Prop := fun e w => ∃ v σ, e = .returned v ∧ Sat w σ ∧ Φ v σ
def Does (P : Program) (f : FuncId) (args : Array Value) (σ : Heap) (Φ : Value → Heap → Prop) : Prop := ∀ w, Sat w σ → Calls P f args w (Ret Φ)
def St (P : Program) (f : FuncId) (n : Nat) (l : Slots) (σ : Heap) (k : List Item) (Φ : Value → Heap → Prop) : Prop := ∀ a w, Fr n l a → Sat w σ → Goes P f a k w (Ret Φ)

theorem Does.mono {P : Program} {f : FuncId} {args : Array Value} {σ : Heap} {Φ Ψ : Value → Heap → Prop} (h : Does P f args σ Φ) (hm : ∀ v τ, Φ v τ → Ψ v τ) : Does P f args σ Ψ :=
  fun w hw => (h w hw).mono fun _ _ ⟨v, τ, he, hs, hp⟩ => ⟨v, τ, he, hs, hm v τ hp⟩

def argl : Nat → List Value → Slots
  | _, [] => []
  | i, v :: vs => (i, v) :: argl (i + 1) vs

theorem argl_get : ∀ (vs : List Value) (i j : Nat) (v : Value), lk (argl i vs) j = some v → i ≤ j ∧ vs[j - i]? = some v
  | [], i, j, v, h => by cases h
  | u :: vs, i, j, v, h => by
    simp only [argl] at h
    rw [lookup_cons] at h
    by_cases he : j = i
    · subst he; simp at h; subst h; simp
    · simp only [he, if_false] at h
      obtain ⟨h1, h2⟩ := argl_get vs (i + 1) j v h
      refine ⟨by omega, ?_⟩
      rw [show j - i = (j - (i + 1)) + 1 by omega]
      simpa using h2

/-- Into a function. -/
theorem Does.enter {P : Program} {f : FuncId} {fn : Func} {c : Code} {args : Array Value} {σ : Heap} {Φ : Value → Heap → Prop} {n : Nat} {l : Slots}
    (hf : P.funcs[f]? = some fn) (hb : fn.body = some c) (hn : fn.ntmps = n) (hsz : args.size ≤ n) (hl : argl 0 args.toList = l) (h : St P f n l σ [.code c] Φ) : Does P f args σ Φ := by
  intro w hw
  refine calls_of_goes hf hb (h _ w ⟨by simp; omega, rfl, fun i v hi => ?_⟩ hw)
  subst hl
  obtain ⟨_, h2⟩ := argl_get _ _ _ _ hi
  have h3 : args[i]? = some v := by simpa using h2
  have hlt : i < args.size := (Array.getElem?_eq_some_iff.1 h3).1
  simp only [Array.getElem?_append, hlt, if_true]; exact h3

section
variable {P : Program} {f : FuncId} {n : Nat} {l : Slots} {σ : Heap} {k : List Item} {Φ : Value → Heap → Prop}

theorem St.of_steps {k' : List Item} (hs : ∀ a w cs, Steps P (lone ((base f).at a k) cs w) (lone ((base f).at a k') cs w)) (h : St P f n l σ k' Φ) : St P f n l σ k Φ :=
  fun a w ha hw => Goes.of_steps (hs a w) (h a w ha hw)
theorem St.skip (h : St P f n l σ k Φ) : St P f n l σ (.code .skip :: k) Φ := St.of_steps (fun _ _ _ => .one step_skip) h
theorem St.label {i : Nat} (h : St P f n l σ k Φ) : St P f n l σ (.code (.label i) :: k) Φ := St.of_steps (fun _ _ _ => .one step_label) h
theorem St.inBlock {i : Nat} (h : St P f n l σ k Φ) : St P f n l σ (.inBlock i :: k) Φ := St.of_steps (fun _ _ _ => .one step_inBlock) h
theorem St.seq {x y : Code} (h : St P f n l σ (.code x :: .code y :: k) Φ) : St P f n l σ (.code (.seq x y) :: k) Φ := St.of_steps (fun _ _ _ => .one step_seq) h
theorem St.block {i : Nat} {c : Code} (h : St P f n l σ (.code c :: .inBlock i :: k) Φ) : St P f n l σ (.code (.block i c) :: k) Φ := St.of_steps (fun _ _ _ => .one step_block) h
theorem St.enterLoop {c : Code} (h : St P f n l σ (.code c :: .inLoop c :: k) Φ) : St P f n l σ (.code (.loop c) :: k) Φ := St.of_steps (fun _ _ _ => .one step_loop) h
theorem St.again {c : Code} (h : St P f n l σ (.code c :: .inLoop c :: k) Φ) : St P f n l σ (.inLoop c :: k) Φ := St.of_steps (fun _ _ _ => .one step_inLoop) h
theorem St.exit {i : Nat} {k' : List Item} (hk : exitTo i k = some k') (h : St P f n l σ k' Φ) : St P f n l σ (.code (.exit i) :: k) Φ := St.of_steps (fun _ _ _ => .one (step_exit hk)) h
theorem St.goto {i : Nat} {k' : List Item} (hk : gotoIn i k = some k') (h : St P f n l σ k' Φ) : St P f n l σ (.code (.goto i) :: k) Φ := St.of_steps (fun _ _ _ => .one (step_goto hk)) h
theorem step_scope {P : Program} {b : Frame} {a : Act} {k : List Item} {cs : List Frame} {w : World} {c : Code} : step P (lone (b.at a (.code (.scope c) :: k)) cs w) = .next (lone (b.at a (.code c :: .inScope c :: k)) cs w) :=
  step_lone_go (by simp [stepG, stepG.exec, Frame.at])
theorem step_inScope {P : Program} {b : Frame} {a : Act} {k : List Item} {cs : List Frame} {w : World} {c : Code} : step P (lone (b.at a (.inScope c :: k)) cs w) = .next (lone (b.at a k) cs w) :=
  step_lone_go (by simp [stepG, stepG.exec, Frame.at])
theorem St.scope {c : Code} (h : St P f n l σ (.code c :: .inScope c :: k) Φ) : St P f n l σ (.code (.scope c) :: k) Φ := St.of_steps (fun _ _ _ => .one step_scope) h
theorem St.inScope {c : Code} (h : St P f n l σ k Φ) : St P f n l σ (.inScope c :: k) Φ := St.of_steps (fun _ _ _ => .one step_inScope) h

theorem St.cond {c : Operand} {x y : Code} {t : Bool} (hc : ev l c = some (.bool t)) (h1 : t = true → St P f n l σ (.code x :: k) Φ) (h2 : t = false → St P f n l σ (.code y :: k) Φ) : St P f n l σ (.code (.cond c x y) :: k) Φ := by
  intro a w ha hw
  refine Goes.of_steps (fun cs => .one (step_cond (ha.eval hc))) ?_
  cases t with
  | true => exact h1 rfl a w ha hw
  | false => exact h2 rfl a w ha hw
theorem St.condT {c : Operand} {x y : Code} (hc : ev l c = some (.bool true)) (h : St P f n l σ (.code x :: k) Φ) : St P f n l σ (.code (.cond c x y) :: k) Φ :=
  St.cond hc (fun _ => h) (fun e => by cases e)
theorem St.condF {c : Operand} {x y : Code} (hc : ev l c = some (.bool false)) (h : St P f n l σ (.code y :: k) Φ) : St P f n l σ (.code (.cond c x y) :: k) Φ :=
  St.cond hc (fun e => by cases e) (fun _ => h)

theorem St.conv {m : Slots} {τ : Heap} (hl : SubL m l) (hs : Sub τ σ) (h : St P f n m τ k Φ) : St P f n l σ k Φ := fun a w ha hw => h a w (ha.sub hl) (hw.sub hs)

/-- Some slots alone. -/
theorem St.keep (ks : List Nat) (h : St P f n (Gw.keep ks l) σ k Φ) : St P f n l σ k Φ := St.conv (SubL.keep ks l) (Sub.rfl' σ) h
/-- What stands behind a piece of code, shown once, where ways meet again. -/
theorem St.join {X : Type} (J : X → Prop) (fr : X → Slots) (hp : X → Heap) {c : Item} (h : (∀ x, J x → St P f n (fr x) (hp x) k Φ) → St P f n l σ (c :: k) Φ) (hk : ∀ x, J x → St P f n (fr x) (hp x) k Φ) : St P f n l σ (c :: k) Φ := h hk
/-- .. where one slot alone differs. -/
theorem St.joinv (d : Nat) (v : Value) {c : Item} (h : St P f n ((d, v) :: l) σ k Φ → St P f n l σ (c :: k) Φ) (hk : St P f n ((d, v) :: l) σ k Φ) : St P f n l σ (c :: k) Φ := h hk

def one : List Value → Value
  | [v] => v
  | vs => .tuple vs.toArray
/-- A loop: 'X' is what is told of a round's head, 'I' what holds there. -/
theorem St.loop {X : Type} (I : X → Prop) (fr : X → Slots) (hp : X → Heap) (m : X → Nat) {c : Code} (x : X) (hx : I x) (hl : SubL (fr x) l) (hs : Sub (hp x) σ)
    (round : ∀ x, I x → (∀ y, I y → m y < m x → St P f n (fr y) (hp y) (.inLoop c :: k) Φ) → St P f n (fr x) (hp x) (.code c :: .inLoop c :: k) Φ) : St P f n l σ (.code (.loop c) :: k) Φ := by
  have main : ∀ (d : Nat) (x : X), m x = d → I x → St P f n (fr x) (hp x) (.code c :: .inLoop c :: k) Φ := by
    intro d
    induction d using Nat.strongRecOn with
    | _ d ih => exact fun x hd hx => round x hx fun y hy hlt => St.again (ih (m y) (hd ▸ hlt) y rfl hy)
  exact St.enterLoop (St.conv hl hs (main _ x rfl hx))
/-- A frame of which all slots are found in another one. -/
def found (m l : Slots) : Prop := m.map (fun p => lk l p.1) = m.map (fun p => some p.2)
theorem lk_mem : ∀ {m : Slots} {i : Nat} {v : Value}, lk m i = some v → ∃ p ∈ m, p.1 = i
  | (d, u) :: m, i, v, h => by
    by_cases e : d = i
    · exact ⟨(d, u), List.mem_cons_self .., e⟩
    · have h' : lk m i = some v := by
        have := h
        unfold lk at this
        split at this
        · rename_i hh; exact absurd (by simpa using hh) (by first | exact e | exact fun q => e q.symm)
        · exact this
      obtain ⟨p, hp, hq⟩ := lk_mem h'
      exact ⟨p, List.mem_cons_of_mem _ hp, hq⟩
theorem SubL.list {m l : Slots} (h : m.map (fun p => lk l p.1) = m.map (fun p => lk m p.1)) : SubL m l := fun i v hv => by
  obtain ⟨p, hp, rfl⟩ := lk_mem hv
  rw [← hv]
  exact List.map_inj_left.1 h p hp
/-- A loop: 'vals' are the slots that change, 'ks' those that stay. -/
theorem St.loopw {Y : Type} (vals : Y → Slots) (ks : List Nat) (I : Y → Heap → Prop) (m : Y → Nat) {c : Code} (y : Y) (hv : (vals y).map (fun p => lk l p.1) = (vals y).map (fun p => some p.2)) (hy : I y σ)
    (round : ∀ y τ, I y τ → (∀ y' τ', I y' τ' → m y' < m y → St P f n (vals y' ++ Gw.keep ks l) τ' (.inLoop c :: k) Φ) → St P f n (vals y ++ Gw.keep ks l) τ (.code c :: .inLoop c :: k) Φ) : St P f n l σ (.code (.loop c) :: k) Φ := by
  refine St.loop (X := Y × Heap) (fun x => I x.1 x.2) (fun x => vals x.1 ++ Gw.keep ks l) (fun x => x.2) (fun x => m x.1) (y, σ) hy ?_ (Sub.rfl' σ) fun x hx back => round x.1 x.2 hx fun y' τ' h1 h2 => back (y', τ') h1 h2
  have key : ∀ v : Slots, v.map (fun p => lk l p.1) = v.map (fun p => some p.2) → SubL (v ++ Gw.keep ks l) l := by
    intro v
    induction v with
    | nil => exact fun _ => SubL.keep ks l
    | cons p v ih =>
      intro h
      simp only [List.map_cons, List.cons.injEq] at h
      exact SubL.cons h.1 (ih h.2)
  exact key _ hv
end
end Go.Gw
