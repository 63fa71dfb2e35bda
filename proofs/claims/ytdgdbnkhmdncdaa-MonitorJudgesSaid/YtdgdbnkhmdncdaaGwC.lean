/- The operations that leave the world alone, each with its value. -/
import Derived.Test.YtdgdbnkhmdncdaaGwB
import Derived.Laws.Entries
import Derived.Laws.Append
import Derived.Laws.StructEq
set_option linter.unusedSectionVars false
set_option linter.unusedSimpArgs false
set_option linter.unusedVariables false
namespace Go.Gw
variable [Env]
section
variable {P : Program} {n : Nat} {ty : TypeId} {l : Slots} {σ : Heap}

theorem q_move {x : Operand} {v : Value} (hx : ev l x = some v) : QOp P n (.move x) ty l σ v := .mk fun a w ha _ _ _ _ _ => by
  show Result.ok (Next.value (a.eval x)) w = _; rw [ha.eval hx]
theorem q_assign {x : Operand} {v : Value} (hx : ev l x = some v) : QOp P n (.assign x) ty l σ v := .mk fun a w ha _ _ _ _ _ => by
  show Result.ok (Next.value (a.eval x)) w = _; rw [ha.eval hx]
theorem q_pick {c x y : Operand} {b : Bool} {v u : Value} (hc : ev l c = some (.bool b)) (hx : ev l x = some v) (hy : ev l y = some u) : QOp P n (.pick c x y) ty l σ (if b then v else u) := .mk fun a w ha _ _ _ _ _ => by
  simp [execOp, ha.eval hc, ha.eval hx, ha.eval hy, asBool]
theorem q_pickT {c x y : Operand} {v : Value} (hc : ev l c = some (.bool true)) (hx : ev l x = some v) : QOp P n (.pick c x y) ty l σ v := .mk fun a w ha _ _ _ _ _ => by
  simp [execOp, ha.eval hc, ha.eval hx, asBool]
theorem q_pickF {c x y : Operand} {v : Value} (hc : ev l c = some (.bool false)) (hy : ev l y = some v) : QOp P n (.pick c x y) ty l σ v := .mk fun a w ha _ _ _ _ _ => by
  simp [execOp, ha.eval hc, ha.eval hy, asBool]
theorem q_nil {x : Operand} {a : Addr} (hx : ev l x = some (.pointer (some a))) : QOp P n (.nilCheck x) ty l σ (.pointer (some a)) := .mk fun a w ha _ _ _ _ _ => by
  simp [execOp, ha.eval hx]
theorem q_nilF {x : Operand} {g : FuncId} {u v : Array Value} (hx : ev l x = some (.func (.func g) u v)) : QOp P n (.nilCheck x) ty l σ (.func (.func g) u v) := .mk fun a w ha _ _ _ _ _ => by
  simp [execOp, ha.eval hx]
theorem q_makeFunc {fn : Go.Fn} {fs cs : Array Operand} {us vs : Array Value} (hf : fs.map (ev l) = us.map some) (hc : cs.map (ev l) = vs.map some) : QOp P n (.makeFunc fn fs cs) ty l σ (.func fn us vs) := .mk fun a w ha _ _ _ _ _ => by
  have key : ∀ (xs : Array Operand) (ys : Array Value), xs.map (ev l) = ys.map some → xs.map a.eval = ys := by
    intro xs ys h
    apply Array.ext
    · have := congrArg Array.size h; simpa using this
    · intro i h1 h2
      have := congrArg (·[i]?) h
      simp only [Array.getElem?_map] at this
      simp only [Array.size_map] at h1
      rw [Array.getElem?_eq_getElem h1, Array.getElem?_eq_getElem h2] at this
      simp only [Option.map_some, Option.some.injEq] at this
      simp only [Array.getElem_map]
      exact ha.eval this
  show Result.ok (Next.value (.func fn (fs.map a.eval) (cs.map a.eval))) w = _
  rw [key fs us hf, key cs vs hc]
theorem q_not {x : Operand} {t : TypeId} {b : Bool} (hx : ev l x = some (.bool b)) : QOp P n (.unOp .not t x) ty l σ (.bool !b) := .mk fun a w ha _ _ _ _ _ => by
  simp [execOp, ha.eval hx, Op.unary]
theorem q_neg {x : Operand} {t : TypeId} {k : IntKind} {m c : Int} (hx : ev l x = some (.int k m)) (hc : k.wrap (0 - m) = c) : QOp P n (.unOp .neg t x) ty l σ (.int k c) := .mk fun a w ha _ _ _ _ _ => by
  simp only [execOp, ha.eval hx, Op.unary, Op.intArith, hc]; rfl
theorem q_extract {x : Operand} {vs : Array Value} {i : Nat} {v : Value} (hx : ev l x = some (.tuple vs)) (hi : vs[i]? = some v) : QOp P n (.extract x i) ty l σ v := .mk fun a w ha _ _ _ _ _ => by
  simp [execOp, ha.eval hx, Instr.extract, hi]

/-! ### Integers, bools, texts -/
theorem eqGuard_int (op : BinOp) (t : TypeId) (x y : Operand) (k j : IntKind) (a b : Int) (w : World) : (eqGuard op t x y (.int k a) (.int j b)).run P w = .ok () w := by cases op <;> rfl
theorem eqGuard_bool (op : BinOp) (t : TypeId) (x y : Operand) (a b : Bool) (w : World) : (eqGuard op t x y (.bool a) (.bool b)).run P w = .ok () w := by cases op <;> rfl
theorem eqGuard_string (op : BinOp) (t : TypeId) (x y : Operand) (a b : ByteArray) (w : World) : (eqGuard op t x y (.string a) (.string b)).run P w = .ok () w := by cases op <;> rfl
theorem eqGuard_ptr (op : BinOp) (t : TypeId) (x y : Operand) (a b : Option Addr) (w : World) : (eqGuard op t x y (.pointer a) (.pointer b)).run P w = .ok () w := by cases op <;> rfl

section
variable {t u : TypeId} {x y : Operand} {k : IntKind} {a b c : Int}
theorem q_ieq (hx : ev l x = some (.int k a)) (hy : ev l y = some (.int k b)) : QOp P n (.binOp .eql t x y u) ty l σ (.bool (a == b)) := .mk fun a w ha _ _ _ _ _ => by
  simp [execOp, ha.eval hx, ha.eval hy, eqGuard_int, binOp, Op.intCmp]
theorem q_ine (hx : ev l x = some (.int k a)) (hy : ev l y = some (.int k b)) : QOp P n (.binOp .neq t x y u) ty l σ (.bool (a != b)) := .mk fun a w ha _ _ _ _ _ => by
  simp [execOp, ha.eval hx, ha.eval hy, eqGuard_int, binOp, Op.intCmp]
theorem q_lt (hx : ev l x = some (.int k a)) (hy : ev l y = some (.int k b)) : QOp P n (.binOp .lss t x y u) ty l σ (.bool (decide (a < b))) := .mk fun a w ha _ _ _ _ _ => by
  simp [execOp, ha.eval hx, ha.eval hy, eqGuard_int, binOp, Op.intCmp]
theorem q_le (hx : ev l x = some (.int k a)) (hy : ev l y = some (.int k b)) : QOp P n (.binOp .leq t x y u) ty l σ (.bool (decide (a ≤ b))) := .mk fun a w ha _ _ _ _ _ => by
  simp [execOp, ha.eval hx, ha.eval hy, eqGuard_int, binOp, Op.intCmp]
theorem q_gt (hx : ev l x = some (.int k a)) (hy : ev l y = some (.int k b)) : QOp P n (.binOp .gtr t x y u) ty l σ (.bool (decide (b < a))) := .mk fun a w ha _ _ _ _ _ => by
  simp [execOp, ha.eval hx, ha.eval hy, eqGuard_int, binOp, Op.intCmp]
theorem q_ge (hx : ev l x = some (.int k a)) (hy : ev l y = some (.int k b)) : QOp P n (.binOp .geq t x y u) ty l σ (.bool (decide (b ≤ a))) := .mk fun a w ha _ _ _ _ _ => by
  simp [execOp, ha.eval hx, ha.eval hy, eqGuard_int, binOp, Op.intCmp]
theorem q_add (hx : ev l x = some (.int k a)) (hy : ev l y = some (.int k b)) (hc : k.wrap (a + b) = c) : QOp P n (.binOp .add t x y u) ty l σ (.int k c) := .mk fun a w ha _ _ _ _ _ => by
  simp [execOp, ha.eval hx, ha.eval hy, eqGuard_int, binOp, Op.intArith, hc]
theorem q_sub (hx : ev l x = some (.int k a)) (hy : ev l y = some (.int k b)) (hc : k.wrap (a - b) = c) : QOp P n (.binOp .sub t x y u) ty l σ (.int k c) := .mk fun a w ha _ _ _ _ _ => by
  simp [execOp, ha.eval hx, ha.eval hy, eqGuard_int, binOp, Op.intArith, hc]
theorem q_mul (hx : ev l x = some (.int k a)) (hy : ev l y = some (.int k b)) (hc : k.wrap (a * b) = c) : QOp P n (.binOp .mul t x y u) ty l σ (.int k c) := .mk fun a w ha _ _ _ _ _ => by
  simp [execOp, ha.eval hx, ha.eval hy, eqGuard_int, binOp, Op.intArith, hc]
theorem q_and (hx : ev l x = some (.int k a)) (hy : ev l y = some (.int k b)) (hc : k.wrap ((BitVec.ofInt k.bits a &&& BitVec.ofInt k.bits b).toNat) = c) : QOp P n (.binOp .and t x y u) ty l σ (.int k c) := .mk fun a w ha _ _ _ _ _ => by
  simp only [execOp, ha.eval hx, ha.eval hy, binOp]
  simp [eqGuard_int, Op.intBits, ← hc]
theorem q_or (hx : ev l x = some (.int k a)) (hy : ev l y = some (.int k b)) (hc : k.wrap ((BitVec.ofInt k.bits a ||| BitVec.ofInt k.bits b).toNat) = c) : QOp P n (.binOp .or t x y u) ty l σ (.int k c) := .mk fun a w ha _ _ _ _ _ => by
  simp only [execOp, ha.eval hx, ha.eval hy, binOp]
  simp [eqGuard_int, Op.intBits, ← hc]
theorem q_andNot (hx : ev l x = some (.int k a)) (hy : ev l y = some (.int k b)) (hc : k.wrap ((BitVec.ofInt k.bits a &&& ~~~ BitVec.ofInt k.bits b).toNat) = c) : QOp P n (.binOp .andNot t x y u) ty l σ (.int k c) := .mk fun a w ha _ _ _ _ _ => by
  simp only [execOp, ha.eval hx, ha.eval hy, binOp]
  simp [eqGuard_int, Op.intBits, ← hc]
theorem q_shl {j : IntKind} {d : Int} (hx : ev l x = some (.int k a)) (hy : ev l y = some (.int j d)) (hd : ¬ d < 0) (hc : k.wrap (a * 2 ^ (min d.toNat k.bits)) = c) : QOp P n (.binOp .shl t x y u) ty l σ (.int k c) := .mk fun a w ha _ _ _ _ _ => by
  simp [execOp, ha.eval hx, ha.eval hy, eqGuard_int, binOp, Op.shift, hd, hc]
theorem q_shr {j : IntKind} {d : Int} (hx : ev l x = some (.int k a)) (hy : ev l y = some (.int j d)) (hd : ¬ d < 0) (hc : a.fdiv (2 ^ (min d.toNat k.bits)) = c) : QOp P n (.binOp .shr t x y u) ty l σ (.int k c) := .mk fun a w ha _ _ _ _ _ => by
  simp [execOp, ha.eval hx, ha.eval hy, eqGuard_int, binOp, Op.shift, hd, hc]
theorem q_bin {op : BinOp} {vx vy v : Value} (hx : ev l x = some vx) (hy : ev l y = some vy) (hg : ∀ w, (eqGuard op t x y vx vy).run P w = .ok () w) (hb : ∀ w, (binOp op t vx vy).run P w = .ok v w) : QOp P n (.binOp op t x y u) ty l σ v := .mk fun a w ha _ _ _ _ _ => by
  simp only [execOp, ha.eval hx, ha.eval hy]
  simp [hg, hb]
theorem run_beq {a b : Bool} (ht : P.underlying t = some .bool) (w : World) (m : Nat) : (Op.equalIn (m + 1) t (.bool a) (.bool b)).run P w = .ok (a == b) w := by simp [Op.equalIn, run_underlying ht]
theorem q_beq {a b : Bool} (ht : P.underlying t = some .bool) (hx : ev l x = some (.bool a)) (hy : ev l y = some (.bool b)) : QOp P n (.binOp .eql t x y u) ty l σ (.bool (a == b)) :=
  q_bin hx hy (eqGuard_bool _ _ _ _ _ _) fun w => by
    have := run_beq (P := P) (a := a) (b := b) ht w 9999
    show (do pure (Value.bool (← Op.equalIn (9999 + 1) t (.bool a) (.bool b))) : Sem Value).run P w = _
    rw [Sem.run_bind, this]; rfl
theorem q_bne {a b : Bool} (ht : P.underlying t = some .bool) (hx : ev l x = some (.bool a)) (hy : ev l y = some (.bool b)) : QOp P n (.binOp .neq t x y u) ty l σ (.bool !(a == b)) :=
  q_bin hx hy (eqGuard_bool _ _ _ _ _ _) fun w => by
    have := run_beq (P := P) (a := a) (b := b) ht w 9999
    show (do pure (Value.bool !(← Op.equalIn (9999 + 1) t (.bool a) (.bool b))) : Sem Value).run P w = _
    rw [Sem.run_bind, this]; rfl
theorem q_seq {a b : ByteArray} (hx : ev l x = some (.string a)) (hy : ev l y = some (.string b)) : QOp P n (.binOp .eql t x y u) ty l σ (.bool (a.toList == b.toList)) :=
  q_bin hx hy (eqGuard_string _ _ _ _ _ _) fun _ => rfl
theorem q_sne {a b : ByteArray} (hx : ev l x = some (.string a)) (hy : ev l y = some (.string b)) : QOp P n (.binOp .neq t x y u) ty l σ (.bool !(a.toList == b.toList)) :=
  q_bin hx hy (eqGuard_string _ _ _ _ _ _) fun _ => rfl
theorem run_peq {e : TypeId} {p : Option Addr} (ht : P.underlying t = some (.pointer e)) (w : World) (m : Nat) : (Op.equalIn (m + 1) t (.pointer p) (.pointer none)).run P w = .ok p.isNone w := by
  cases p <;> simp [Op.equalIn, run_underlying ht]
theorem q_peqn {e : TypeId} {p : Option Addr} (ht : P.underlying t = some (.pointer e)) (hx : ev l x = some (.pointer p)) (hy : ev l y = some (.pointer none)) : QOp P n (.binOp .eql t x y u) ty l σ (.bool p.isNone) :=
  q_bin hx hy (eqGuard_ptr _ _ _ _ _ _) fun w => by
    have := run_peq (P := P) (p := p) ht w 9999
    show (do pure (Value.bool (← Op.equalIn (9999 + 1) t (.pointer p) (.pointer none))) : Sem Value).run P w = _
    rw [Sem.run_bind, this]; rfl
theorem q_pnen {e : TypeId} {p : Option Addr} (ht : P.underlying t = some (.pointer e)) (hx : ev l x = some (.pointer p)) (hy : ev l y = some (.pointer none)) : QOp P n (.binOp .neq t x y u) ty l σ (.bool !p.isNone) :=
  q_bin hx hy (eqGuard_ptr _ _ _ _ _ _) fun w => by
    have := run_peq (P := P) (p := p) ht w 9999
    show (do pure (Value.bool !(← Op.equalIn (9999 + 1) t (.pointer p) (.pointer none))) : Sem Value).run P w = _
    rw [Sem.run_bind, this]; rfl
/-- Structs and arrays that are compared. -/
theorem q_aeq {xs ys : Array Value} {b : Bool} (hx : ev l x = some (.agg xs)) (hy : ev l y = some (.agg ys)) (hg : P.eqGuardType P.depth t = false) (he : ∀ w, (Op.equal t (.agg xs) (.agg ys)).run P w = .ok b w) : QOp P n (.binOp .eql t x y u) ty l σ (.bool b) :=
  q_bin hx hy (fun w => run_eqGuard_agg w _ _ _ _ _ _ hg) fun w => by
    show (do pure (Value.bool (← Op.equal t (.agg xs) (.agg ys))) : Sem Value).run P w = _
    rw [Sem.run_bind, he]; rfl
theorem q_ane {xs ys : Array Value} {b : Bool} (hx : ev l x = some (.agg xs)) (hy : ev l y = some (.agg ys)) (hg : P.eqGuardType P.depth t = false) (he : ∀ w, (Op.equal t (.agg xs) (.agg ys)).run P w = .ok b w) : QOp P n (.binOp .neq t x y u) ty l σ (.bool !b) :=
  q_bin hx hy (fun w => run_eqGuard_agg w _ _ _ _ _ _ hg) fun w => by
    show (do pure (Value.bool !(← Op.equal t (.agg xs) (.agg ys))) : Sem Value).run P w = _
    rw [Sem.run_bind, he]; rfl
end
theorem wrap64 {x : Int} (h : -9223372036854775808 ≤ x ∧ x < 9223372036854775808) : IntKind.i64.wrap x = x := by
  have h1 : (2 : Int) ^ (64 : Nat) = 18446744073709551616 := by decide
  have h2 : (2 : Int) ^ (63 : Nat) = 9223372036854775808 := by decide
  simp only [IntKind.wrap, IntKind.bits, IntKind.signed, h1, Nat.add_one_sub_one, h2, Bool.true_and, decide_eq_true_eq]
  split <;> omega

/-! ### Memory -/
/-- A field's first cell; none: there is no such field, or it has no cells. -/
def fieldOff (P : Program) (s i : Nat) : Option Nat :=
  match P.underlying s with
  | some (.struct fs) => match fs[i]? with
    | some f => match P.info? f.type with
      | some d => if d.size = 0 then none else some f.offset
      | none => none
    | none => none
  | _ => none
theorem add_plain' (b o m : Nat) : (Addr.add ⟨b, o, none⟩ m) = ⟨b, o + m, none⟩ := by unfold Addr.add; split <;> simp_all

theorem inc64 {i : Nat} (h : i < 9223372036854775807) : IntKind.i64.wrap ((i : Int) + 1) = ((i + 1 : Nat) : Int) := by
  rw [wrap64 (by omega)]; omega
theorem q_fieldAddr {x : Operand} {s i off b o o' : Nat} (hs : fieldOff P s i = some off) (hx : ev l x = some (.pointer (some ⟨b, o, none⟩))) (ho : o + off = o') : QOp P n (.fieldAddr s x i) ty l σ (.pointer (some ⟨b, o', none⟩)) := .mk fun a w ha _ _ _ _ _ => by
  unfold fieldOff at hs
  split at hs
  · rename_i fs hu
    split at hs
    · rename_i f hf
      split at hs
      · rename_i d hd
        split at hs
        · cases hs
        · rename_i hz
          cases hs
          simp [execOp, ha.eval hx, Instr.fieldAt, run_underlying hu, hf, Instr.sureAddr, fieldPlace, sizeOf, typeInfo, hd, hz, add_plain', ho]
      · cases hs
    · cases hs
  · cases hs

/-- How many cells a variable of a type has, if it is a struct's or an array's; 'some none': it is one cell. -/
def aggCells (P : Program) (t : TypeId) : Option (Option Nat) :=
  match P.underlying t with
  | some (.struct _) | some (.array _ _) => match P.info? t with
    | some d => some (some d.size)
    | none => none
  | some _ => some none
  | none => none

def row (cs : Array Value) (o n : Nat) : Option (List Value) := if o + n ≤ cs.size then some ((cs.toList.drop o).take n) else none

theorem HSat.cell {w : World} (hw : HSat w σ) {b o : Nat} {cs : Array Value} {T : TypeId} {fz : Nat × Nat} {v : Value} (hb : σ b = some (.cells cs T fz)) (hc : cs[o]? = some v) : w.cell? ⟨b, o, none⟩ = some v := by
  simp [World.cell?, hw b _ hb, hc]

theorem q_load1 {x : Operand} {t : TypeId} {b o : Nat} {cs : Array Value} {T : TypeId} {fz : Nat × Nat} {v : Value} (ht : aggCells P t = some none) (hx : ev l x = some (.pointer (some ⟨b, o, none⟩)))
    (hb : σ b = some (.cells cs T fz)) (hc : cs[o]? = some v) : QOp P n (.load t x) ty l σ v := .mk fun a w ha hw _ _ _ _ => by
  have hcell := hw.cell hb hc
  have hagg : (isAgg t).run P w = .ok false w := by
    unfold aggCells at ht
    split at ht <;> rename_i hu
    · split at ht <;> cases ht
    · split at ht <;> cases ht
    · rename_i d h1 h2
      unfold isAgg
      cases d <;> first | exact (h1 _ rfl).elim | exact (h2 _ _ rfl).elim | simp [run_underlying hu]
    · cases ht
  simp [execOp, ha.eval hx, Instr.loadAt, Instr.sureAddr, loadVar, hagg, load, Sem.run, hcell]

theorem row_some {cs : Array Value} {o n : Nat} {vs : List Value} (h : row cs o n = some vs) : vs.length = n ∧ ∀ i, i < n → cs[o + i]? = vs[i]? := by
  unfold row at h
  split at h
  · rename_i hle
    cases h
    refine ⟨by simp; omega, fun i hi => ?_⟩
    rw [List.getElem?_take, if_pos hi, List.getElem?_drop]
    simp
  · cases h

theorem run_loadCells {w : World} (hw : HSat w σ) {b : Nat} {cs : Array Value} {T : TypeId} {fz : Nat × Nat} (hb : σ b = some (.cells cs T fz)) {o : Nat} : ∀ (m i : Nat) (vs : List Value) (acc : Array Value), vs.length = m → (∀ j, j < m → cs[o + (i + j)]? = vs[j]?) →
    (loadCellsFrom ⟨b, o, none⟩ i m acc).run P w = .ok (acc ++ vs.toArray) w
  | 0, i, vs, acc, hl, _ => by
    have : vs = [] := List.length_eq_zero_iff.1 hl
    subst this
    simp [loadCellsFrom]
  | m + 1, i, [], acc, hl, _ => by cases hl
  | m + 1, i, v :: vs, acc, hl, h => by
    have h0 := h 0 (by omega)
    have hcell : w.cell? ⟨b, o + i, none⟩ = some v := hw.cell hb (by simpa using h0)
    have ih := run_loadCells hw hb (o := o) m (i + 1) vs (acc.push v) (by simpa using hl) (fun j hj => by
      have := h (j + 1) (by omega)
      rw [show i + 1 + j = i + (j + 1) by omega]; simpa using this)
    simp only [loadCellsFrom, add_plain', Sem.run_bind, load, Sem.run, hcell, Result.andThen_ok]
    rw [ih]; simp

theorem q_loadA {x : Operand} {t : TypeId} {b o m : Nat} {cs : Array Value} {T : TypeId} {fz : Nat × Nat} {vs : List Value} (ht : aggCells P t = some (some m)) (hx : ev l x = some (.pointer (some ⟨b, o, none⟩)))
    (hb : σ b = some (.cells cs T fz)) (hc : row cs o m = some vs) : QOp P n (.load t x) ty l σ (.agg vs.toArray) := .mk fun a w ha hw _ _ _ _ => by
  obtain ⟨h1, h2⟩ := row_some hc
  have hl := run_loadCells (P := P) hw hb (o := o) m 0 vs #[] h1 (fun j hj => by simpa using h2 j hj)
  have hagg : (isAgg t).run P w = .ok true w ∧ ∃ d, P.info? t = some d ∧ d.size = m := by
    unfold aggCells at ht
    split at ht <;> rename_i hu
    · split at ht
      · rename_i d hd; simp at ht; exact ⟨by simp [isAgg, run_underlying hu], d, hd, ht⟩
      · cases ht
    · split at ht
      · rename_i d hd; simp at ht; exact ⟨by simp [isAgg, run_underlying hu], d, hd, ht⟩
      · cases ht
    · cases ht
    · cases ht
  obtain ⟨hagg, d, hd, hm⟩ := hagg
  simp [execOp, ha.eval hx, Instr.loadAt, Instr.sureAddr, loadVar, hagg, sizeOf, typeInfo, hd, hm, loadCells, hl]

/-! ### Slices, texts, structs by value -/
/-- The cells of a slice's element. -/
def sliceElem (P : Program) (t : TypeId) : Option Nat :=
  match P.underlying t with
  | some (.slice e) => (P.info? e).map (·.size)
  | _ => none
theorem sliceElem_some {t : TypeId} {m : Nat} (h : sliceElem P t = some m) : ∃ e d, P.underlying t = some (.slice e) ∧ P.info? e = some d ∧ d.size = m := by
  unfold sliceElem at h
  split at h
  · rename_i e hu
    cases hd : P.info? e with
    | none => rw [hd] at h; cases h
    | some d => rw [hd] at h; simp at h; exact ⟨e, d, hu, hd, h⟩
  · cases h

theorem q_indexAddr {x ix : Operand} {t : TypeId} {b o m len cap : Nat} {kd : IntKind} {i : Nat} {o' : Nat} (ht : sliceElem P t = some m) (hx : ev l x = some (.slice (some ⟨b, o, none⟩) len cap)) (hi : ev l ix = some (.int kd (i : Int)))
    (hlt : i < len) (ho : o + i * m = o') : QOp P n (.indexAddr t x ix) ty l σ (.pointer (some ⟨b, o', none⟩)) := .mk fun a w ha _ _ _ _ _ => by
  obtain ⟨e, d, hu, hd, hm⟩ := sliceElem_some ht
  have h1 : (0 : Int) ≤ (i : Int) ∧ (i : Int) < (len : Int) := ⟨by omega, by omega⟩
  simp [execOp, ha.eval hx, ha.eval hi, Instr.indexAt, run_underlying hu, asIntOf, sizeOf, typeInfo, hd, hm, hlt, add_plain', ho]
theorem q_indexAt {x ix : Operand} {t : TypeId} {p : Option Addr} {b o m len cap : Nat} {kd : IntKind} {i : Nat} {o' : Nat} (ht : sliceElem P t = some m) (hx : ev l x = some (.slice p len cap)) (hp : p = some ⟨b, o, none⟩) (hi : ev l ix = some (.int kd (i : Int)))
    (hlt : i < len) (ho : o + i * m = o') : QOp P n (.indexAddr t x ix) ty l σ (.pointer (some ⟨b, o', none⟩)) := q_indexAddr ht (by rw [hx, hp]) hi hlt ho
/-- .. of an array's variable. -/
def arrElem (P : Program) (t : TypeId) : Option (Nat × Nat) := match P.underlying t with
  | some (.array len e) => (P.info? e).map fun d => (len, d.size)
  | _ => none
theorem q_indexAddrA {x ix : Operand} {t : TypeId} {b o m len : Nat} {kd : IntKind} {i : Nat} {o' : Nat} (ha : arrElem P t = some (len, m)) (hx : ev l x = some (.pointer (some ⟨b, o, none⟩))) (hi : ev l ix = some (.int kd (i : Int)))
    (hlt : i < len) (ho : o + i * m = o') : QOp P n (.indexAddr t x ix) ty l σ (.pointer (some ⟨b, o', none⟩)) := .mk fun a w hfr _ _ _ _ _ => by
  unfold arrElem at ha
  split at ha
  · rename_i len' e ht
    obtain ⟨d, hd, hdm⟩ := Option.map_eq_some_iff.1 ha
    simp only [Prod.mk.injEq] at hdm
    obtain ⟨rfl, hm⟩ := hdm
    simp [execOp, hfr.eval hx, hfr.eval hi, Instr.indexAt, run_underlying ht, asIntOf, Instr.sureAddr, sizeOf, typeInfo, hd, hm, hlt, add_plain', ho]
  · cases ha

theorem q_lenS {x : Operand} {t : TypeId} {m : Nat} {p : Option Addr} {len cap : Nat} {c : Call} (hc : c = ⟨.builtin .len, #[x], #[t]⟩) (ht : sliceElem P t = some m) (hx : ev l x = some (.slice p len cap)) : QOp P n (.call c) ty l σ (.int .i64 len) := .mk fun a w ha _ _ _ _ _ => by
  subst hc
  obtain ⟨e, d, hu, hd, hm⟩ := sliceElem_some ht
  simp [execOp, resolve, invoke, builtin, ha.eval hx, Builtin.len_, run_underlying hu, goInt]
theorem q_lenT {x : Operand} {t : TypeId} {s : ByteArray} {c : Call} (hc : c = ⟨.builtin .len, #[x], #[t]⟩) (ht : P.underlying t = some .string) (hx : ev l x = some (.string s)) : QOp P n (.call c) ty l σ (.int .i64 s.size) := .mk fun a w ha _ _ _ _ _ => by
  subst hc
  simp [execOp, resolve, invoke, builtin, ha.eval hx, Builtin.len_, run_underlying ht, goInt]
theorem q_lenA {x : Operand} {t e : TypeId} {len : Nat} {v : Value} {c : Call} (hc : c = ⟨.builtin .len, #[x], #[t]⟩) (ht : P.underlying t = some (.array len e)) (hx : ev l x = some v) : QOp P n (.call c) ty l σ (.int .i64 len) := .mk fun a w ha _ _ _ _ _ => by
  subst hc
  simp [execOp, resolve, invoke, builtin, ha.eval hx, Builtin.len_, run_underlying ht, goInt]
theorem q_min {x y : Operand} {k : IntKind} {t : Array TypeId} {i j : Int} {c : Call} (hc : c = ⟨.builtin .min, #[x, y], t⟩) (hx : ev l x = some (.int k i)) (hy : ev l y = some (.int k j)) : QOp P n (.call c) ty l σ (.int k (min i j)) := .mk fun a w ha _ _ _ _ _ => by
  subst hc
  have : (if j < i then j else i) = min i j := by omega
  simp [execOp, resolve, invoke, builtin, ha.eval hx, ha.eval hy, Builtin.min_, Builtin.min2, this]
theorem q_max {x y : Operand} {k : IntKind} {t : Array TypeId} {i j : Int} {c : Call} (hc : c = ⟨.builtin .max, #[x, y], t⟩) (hx : ev l x = some (.int k i)) (hy : ev l y = some (.int k j)) : QOp P n (.call c) ty l σ (.int k (max i j)) := .mk fun a w ha _ _ _ _ _ => by
  subst hc
  have : (if i < j then j else i) = max i j := by omega
  simp [execOp, resolve, invoke, builtin, ha.eval hx, ha.eval hy, Builtin.max_, Builtin.max2, this]

/-- A field of a struct's value. -/
def partV (P : Program) (t : TypeId) (cs : Array Value) (i : Nat) : Option Value :=
  match P.underlying t with
  | some (.struct fs) => match fs[i]? with
    | some f => match aggCells P f.type with
      | some none => cs[f.offset]?
      | some (some m) => some (.agg (cs.extract f.offset (f.offset + m)))
      | none => none
    | none => none
  | _ => none
theorem isAgg_run {t : TypeId} (w : World) {r : Option Nat} (h : aggCells P t = some r) : (isAgg t).run P w = .ok r.isSome w ∧ (∀ m, r = some m → ∃ d, P.info? t = some d ∧ d.size = m) := by
  unfold aggCells at h
  split at h <;> rename_i hu
  · split at h
    · rename_i d hd; cases h; exact ⟨by simp [isAgg, run_underlying hu], fun m hm => ⟨d, hd, by simpa using hm⟩⟩
    · cases h
  · split at h
    · rename_i d hd; cases h; exact ⟨by simp [isAgg, run_underlying hu], fun m hm => ⟨d, hd, by simpa using hm⟩⟩
    · cases h
  · rename_i d h1 h2
    cases h
    refine ⟨?_, fun m hm => by cases hm⟩
    unfold isAgg
    cases d <;> first | exact (h1 _ rfl).elim | exact (h2 _ _ rfl).elim | simp [run_underlying hu]
  · cases h
theorem part_run {t : TypeId} (w : World) {cs : Array Value} {off : Nat} {r : Option Nat} {v : Value} (h : aggCells P t = some r) (hv : (match r with | none => cs[off]? | some m => some (.agg (cs.extract off (off + m)))) = some v) : (part t cs off).run P w = .ok v w := by
  obtain ⟨h1, h2⟩ := isAgg_run w h
  cases r with
  | none => simp at hv; simp [part, h1, hv]
  | some m =>
    obtain ⟨d, hd, hm⟩ := h2 m rfl
    simp at hv
    simp [part, h1, sizeOf, typeInfo, hd, hm, hv]
theorem q_field {x : Operand} {t i : Nat} {cs : Array Value} {v : Value} (hx : ev l x = some (.agg cs)) (hv : partV P t cs i = some v) : QOp P n (.field t x i) ty l σ v := .mk fun a w ha _ _ _ _ _ => by
  unfold partV at hv
  split at hv
  · rename_i fs hu
    split at hv
    · rename_i f hf
      cases hr : aggCells P f.type with
      | none => rw [hr] at hv; cases hv
      | some r =>
        rw [hr] at hv
        have := part_run (P := P) (t := f.type) w (cs := cs) (off := f.offset) (v := v) hr (by cases r <;> exact hv)
        simp [execOp, ha.eval hx, Instr.field, run_underlying hu, asAgg, hf, this]
    · cases hv
  · cases hv

/-- A struct or an array that is built: its cells. -/
def buildV (P : Program) (t : TypeId) (parts : List (Nat × Value)) : Option (Array Value) :=
  match P.info? t with
  | none => none
  | some d => match d.zero with
    | none => none
    | some z => match P.underlying t with
      | some (.struct fs) => Instr.fill (fun i => (fs[i]?).bind fun f => (P.info? f.type).map fun d => (f.offset, d.size)) z.cells parts
      | _ => none
/-! ### A function's results -/
def resF (tmps : Array Value) : ResultVar → Sem Value
  | .tmp t => pure (tmps.getD t undef)
  | .cell x t => do loadVar t (← asAddr (tmps.getD x undef))
/-- What a function hands back, off its slots and the heap. -/
inductive Res (P : Program) (l : Slots) (σ : Heap) : List ResultVar → List Value → Prop
  | nil : Res P l σ [] []
  | tmp {t : Nat} {v : Value} {rs : List ResultVar} {vs : List Value} (h : lk l t = some v) (hr : Res P l σ rs vs) : Res P l σ (.tmp t :: rs) (v :: vs)
  | cell {x t b o : Nat} {cs : Array Value} {T : TypeId} {fz : Nat × Nat} {v : Value} {rs : List ResultVar} {vs : List Value} (ht : aggCells P t = some none) (hx : lk l x = some (.pointer (some ⟨b, o, none⟩)))
      (hb : σ b = some (.cells cs T fz)) (hc : cs[o]? = some v) (hr : Res P l σ rs vs) : Res P l σ (.cell x t :: rs) (v :: vs)
  | agg {x t b o m : Nat} {cs : Array Value} {T : TypeId} {fz : Nat × Nat} {us : List Value} {rs : List ResultVar} {vs : List Value} (ht : aggCells P t = some (some m)) (hx : lk l x = some (.pointer (some ⟨b, o, none⟩)))
      (hb : σ b = some (.cells cs T fz)) (hc : row cs o m = some us) (hr : Res P l σ rs vs) : Res P l σ (.cell x t :: rs) (.agg us.toArray :: vs)
theorem Res.run {l : Slots} {σ : Heap} {a : Act} {n : Nat} (ha : Fr n l a) {w : World} (hw : HSat w σ) {rs : List ResultVar} {vs : List Value} (h : Res P l σ rs vs) : (rs.mapM (resF a.tmps)).run P w = .ok vs w := by
  induction h with
  | nil => rfl
  | @tmp t v rs vs h _ ih =>
    have := ha.get t v h
    rw [List.mapM_cons]
    simp [resF, Array.getD_eq_getD_getElem?, this, ih]
  | @cell x t b o cs T fz v rs vs ht hx hb hc _ ih =>
    have := ha.get x _ hx
    have hcell := hw.cell hb hc
    have hagg := (isAgg_run (P := P) w ht).1
    rw [List.mapM_cons]
    have h1 : (resF a.tmps (.cell x t)).run P w = .ok v w := by
      simp [resF, Array.getD_eq_getD_getElem?, this, asAddr, loadVar, hagg, load, Sem.run, hcell]
    simp only [Sem.run_bind, h1, Result.andThen_ok, ih]
    rfl
  | @agg x t b o m cs T fz us rs vs ht hx hb hc _ ih =>
    have := ha.get x _ hx
    obtain ⟨h1, h2⟩ := row_some hc
    have hl := run_loadCells (P := P) hw hb (o := o) m 0 us #[] h1 (fun j hj => by simpa using h2 j hj)
    obtain ⟨hagg, hd⟩ := isAgg_run (P := P) w ht
    obtain ⟨d, hd, hm⟩ := hd m rfl
    have h1 : (resF a.tmps (.cell x t)).run P w = .ok (.agg us.toArray) w := by
      simp [resF, Array.getD_eq_getD_getElem?, this, asAddr, loadVar, hagg, sizeOf, typeInfo, program, Sem.run, hd, hm, loadCells, hl]
    rw [List.mapM_cons]
    simp only [Sem.run_bind, h1, Result.andThen_ok, ih]
    rfl
theorem results_run {fn : Func} {a : Act} {n : Nat} {l : Slots} {σ : Heap} (ha : Fr n l a) {w : World} (hw : HSat w σ) {vs : List Value} (h : Res P l σ fn.results.toList vs) :
    (results fn a.tmps).run P w = .ok (one vs) w := by
  have e : results fn a.tmps = (do let vs ← fn.results.mapM (resF a.tmps); pure (if h : vs.size = 1 then vs[0] else .tuple vs)) := by
    unfold results
    congr 1
  rw [e, Array.mapM_eq_mapM_toList, Sem.run_bind, Sem.run_map, h.run ha hw]
  match vs with
  | [] => rfl
  | [v] => rfl
  | u :: v :: r =>
    simp [one]
section
variable {f : FuncId} {k : List Item} {Φ : Value → Heap → Prop}
theorem St.ret' {fn : Func} {vs : List Value} (ht : k = [] ∨ ∃ k', k = .code .ret :: k') (hf : P.funcs[f]? = some fn) (hr : Res P l σ fn.results.toList vs) {τ : Heap} (hs : Sub τ σ) (h : Φ (one vs) τ) : St P f n l σ k Φ :=
  fun _ _ ha hw => Goes.ret ht hf ha.defers (results_run ha hw.heap hr) ⟨_, τ, rfl, hw.sub hs, h⟩
theorem St.ret {fn : Func} {vs : List Value} (hf : P.funcs[f]? = some fn) (hr : Res P l σ fn.results.toList vs) {τ : Heap} (hs : Sub τ σ) (h : Φ (one vs) τ) : St P f n l σ (.code .ret :: k) Φ :=
  St.ret' (.inr ⟨_, rfl⟩) hf hr hs h
theorem St.fin {fn : Func} {vs : List Value} (hf : P.funcs[f]? = some fn) (hr : Res P l σ fn.results.toList vs) {τ : Heap} (hs : Sub τ σ) (h : Φ (one vs) τ) : St P f n l σ [] Φ :=
  St.ret' (.inl rfl) hf hr hs h
end
end
end Go.Gw
