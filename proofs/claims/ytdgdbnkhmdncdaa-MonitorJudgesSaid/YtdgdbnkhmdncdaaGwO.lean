/- More operations that leave the world alone: conversions of integers, parts of a slice. -/
import Derived.Test.YtdgdbnkhmdncdaaGwN
set_option linter.unusedSectionVars false
set_option linter.unusedSimpArgs false
set_option linter.unusedVariables false
namespace Go.Gw
variable [Env]
section
variable {P : Program} {n : Nat} {ty : TypeId} {l : Slots} {σ : Heap} {K : Value → Heap → Prop}
def toInt (P : Program) (s d : TypeId) : Option IntKind := match P.underlying s, P.underlying d with
  | some _, some (.int k) => some k
  | _, _ => none
theorem q_conv {x : Operand} {s d : TypeId} {k j : IntKind} {a c : Int} (ht : toInt P s d = some k) (hx : ev l x = some (.int j a)) (hc : k.wrap a = c) : QOp P n (.convert s d x) ty l σ (.int k c) := .mk fun w' w ha _ _ _ _ _ => by
  unfold toInt at ht
  split at ht
  · rename_i ds k' hs hd
    cases ht
    have : (convert s d (.int j a)).run P w = .ok (.int k c) w := by
      unfold convert
      simp only [Sem.run_bind, run_underlying hs, run_underlying hd, Result.andThen_ok]
      cases ds <;> simp [Conv.intToInt, hc]
    simp [execOp, ha.eval hx, this]
  · cases ht
/-- The beginning of a slice. -/
theorem q_sliceTo {x y : Operand} {t : TypeId} {m len cap i : Nat} {p : Option Addr} {kd : IntKind} (ht : sliceElem P t = some m) (hx : ev l x = some (.slice p len cap)) (hp : ∀ a, p = some a → a.spot = none) (hy : ev l y = some (.int kd (i : Int))) (hi : i ≤ cap) : QOp P n (.slice t x none (some y) none) ty l σ (.slice p i cap) := .mk fun a w ha _ _ _ _ _ => by
  obtain ⟨e, d, hu, hd, hm⟩ := sliceElem_some ht
  have hp' : Option.map (fun a => a.add 0) p = p := by
    cases p with
    | none => rfl
    | some a =>
      obtain ⟨b, o, s⟩ := a
      have := hp _ rfl
      simp only at this; subst this
      simp [add_plain']
  have h1 : (0 : Int) ≤ (i : Int) ∧ (i : Int) ≤ (cap : Int) := ⟨by omega, by omega⟩
  simp [execOp, ha.eval hx, ha.eval hy, Instr.sliceAt, Instr.slice, Instr.sliceBounds, Instr.sliceBound, run_underlying hu, asIntOf, sizeOf, typeInfo, hd, hm, hp', hi]

/-! ### Structs that are compared -/
def cutV (r : Option Nat) (xs : Array Value) (o : Nat) : Option Value := match r with
  | none => xs[o]?
  | some m => some (.agg (xs.extract o (o + m)))
theorem part_cut {t : TypeId} (w : World) {cs : Array Value} {off : Nat} {r : Option Nat} {v : Value} (h : aggCells P t = some r) (hv : cutV r cs off = some v) : (part t cs off).run P w = .ok v w := part_run w h (by cases r <;> exact hv)
def flds (fs : List Field) : List (Bool × Nat × Nat) := fs.map fun f => (f.name == "_", f.type, f.offset)
theorem eqF {w : World} {d t o : Nat} {xs ys : Array Value} {fs : List Field} {rest : List (Bool × Nat × Nat)} {r : Option Nat} {a b : Value} {q s : Bool} (hf : flds fs = (false, t, o) :: rest)
    (hr : aggCells P t = some r) (ha : cutV r xs o = some a) (hb : cutV r ys o = some b)
    (he : (Op.equalIn d t a b).run P w = .ok q w) (hn : ∀ fs : List Field, flds fs = rest → (Op.eqFields d xs ys fs).run P w = .ok s w) : (Op.eqFields d xs ys fs).run P w = .ok (q && s) w := by
  cases fs with
  | nil => cases hf
  | cons f fs =>
    simp only [flds, List.map_cons, List.cons.injEq, Prod.mk.injEq] at hf
    obtain ⟨⟨h1, h2, h3⟩, h4⟩ := hf
    have hne : f.name ≠ "_" := by simpa using h1
    subst h2 h3
    simp only [Op.eqFields, hne, ne_eq, not_false_eq_true, if_true, Sem.run_bind, part_cut w hr ha, part_cut w hr hb, he, Result.andThen_ok]
    cases q
    · rfl
    · simp [hn fs h4]
theorem eqN {w : World} {d : Nat} {xs ys : Array Value} (fs : List Field) (hf : flds fs = []) : (Op.eqFields d xs ys fs).run P w = .ok true w := by
  cases fs with
  | nil => rfl
  | cons => cases hf
/-- .. the last one. -/
theorem eqL {w : World} {d t o : Nat} {xs ys : Array Value} {fs : List Field} {r : Option Nat} {a b : Value} {q : Bool} (hf : flds fs = [(false, t, o)])
    (hr : aggCells P t = some r) (ha : cutV r xs o = some a) (hb : cutV r ys o = some b) (he : (Op.equalIn d t a b).run P w = .ok q w) : (Op.eqFields d xs ys fs).run P w = .ok q w := by
  have := eqF hf hr ha hb he fun fs h => eqN fs h
  rwa [Bool.and_true] at this
/-- A struct type's fields, if its values are compared field by field. -/
def eqTy (P : Program) (t : TypeId) : Option (List (Bool × Nat × Nat)) := match P.underlying t with
  | some (.struct fs) => if P.stoodInHeld t then none else some (flds fs.toList)
  | _ => none
theorem eqAgg {w : World} {t d : Nat} {fl : List (Bool × Nat × Nat)} {xs ys : Array Value} {r : Bool} (h1 : eqTy P t = some fl)
    (h : ∀ fs : List Field, flds fs = fl → (Op.eqFields d xs ys fs).run P w = .ok r w) : (Op.equalIn (d + 1) t (.agg xs) (.agg ys)).run P w = .ok r w := by
  unfold eqTy at h1
  split at h1
  · rename_i fs hu
    split at h1
    · cases h1
    · rename_i hs
      cases h1
      have hf : P.fieldsOf t = fs := by simp [Program.fieldsOf, hu]
      rw [run_equalIn_agg w d t xs ys (by rw [hf]; exact hu) (by simpa using hs), hf]
      exact h _ rfl
  · cases h1

/-! ### Structs as keys -/
theorem chkF (em : Bool) (n : Nat) (cs : Array Value) (w : World) : ∀ (fs : List Field), (∀ f ∈ fs, f.name ≠ "_" ∧ ∃ r v, aggCells P f.type = some r ∧ cutV r cs f.offset = some v ∧ (Instr.checkKey em n f.type v).run P w = .ok () w) →
    ∀ t, P.underlying t = some (.struct fs.toArray) → (Instr.checkKey em (n + 1) t (.agg cs)).run P w = .ok () w := by
  intro fs hfs t ht
  simp only [Instr.checkKey, Sem.run_bind, run_underlying ht, Result.andThen_ok]
  rw [← Array.forIn_toList]
  simp only []
  clear ht
  induction fs with
  | nil => simp
  | cons f fs ih =>
    obtain ⟨hn, r, v, h1, h2, h3⟩ := hfs f (by simp)
    have := ih fun g hg => hfs g (by simp [hg])
    simp only [List.forIn_cons, Sem.run_bind, hn, ne_eq, not_false_eq_true, if_true, part_cut w h1 h2, h3, Result.andThen_ok]
    exact this
theorem chkAgg {em : Bool} {n t : Nat} {cs : Array Value} {w : World} {fl : List (Bool × Nat × Nat)} (h1 : eqTy P t = some fl)
    (h : ∀ p ∈ fl, p.1 = false ∧ ∃ r v, aggCells P p.2.1 = some r ∧ cutV r cs p.2.2 = some v ∧ (Instr.checkKey em n p.2.1 v).run P w = .ok () w) : (Instr.checkKey em (n + 1) t (.agg cs)).run P w = .ok () w := by
  unfold eqTy at h1
  split at h1
  · rename_i fs hu
    split at h1
    · cases h1
    · cases h1
      refine chkF em n cs w fs.toList (fun f hf => ?_) t (by simpa using hu)
      have := h (f.name == "_", f.type, f.offset) (List.mem_map.2 ⟨f, hf, rfl⟩)
      exact ⟨by simpa using this.1, this.2⟩
  · cases h1
theorem chkInt {em : Bool} {n t : Nat} {k j : IntKind} {a : Int} {w : World} (h : P.underlying t = some (.int j)) : (Instr.checkKey em (n + 1) t (.int k a)).run P w = .ok () w := by simp [Instr.checkKey, run_underlying h]
theorem wide_of {t : TypeId} {fl : List (Bool × Nat × Nat)} (h1 : eqTy P t = some fl) : wide P t = true := by
  unfold wide
  unfold eqTy at h1
  split at h1
  · rename_i hu; rw [hu]
  · cases h1

/-! ### Rows of cells -/
theorem row_cell {cs : Array Value} {o m : Nat} {vs : List Value} (h : row cs o m = some vs) (j : Nat) {v : Value} (hj : vs[j]? = some v) : cs[o + j]? = some v := by
  unfold row at h
  split at h
  · cases h
    rw [List.getElem?_take] at hj
    split at hj
    · rw [List.getElem?_drop, Array.getElem?_toList] at hj; exact hj
    · cases hj
  · cases h
theorem row_length {cs : Array Value} {o m : Nat} {vs : List Value} (h : row cs o m = some vs) : vs.length = m := by
  unfold row at h
  split at h
  · cases h; simp; omega
  · cases h
theorem row_mk {cs : Array Value} {o m : Nat} {vs : List Value} (hm : 0 < m) (hl : vs.length = m) (h : ∀ j, j < m → cs[o + j]? = vs[j]?) : row cs o m = some vs := by
  have hle : o + m ≤ cs.size := by
    have := h (m - 1) (by omega)
    rw [List.getElem?_eq_getElem (by omega)] at this
    have := (Array.getElem?_eq_some_iff.1 this).1
    omega
  unfold row
  rw [if_pos hle]
  congr 1
  apply List.ext_getElem?
  intro j
  rw [List.getElem?_take]
  split
  · rename_i hj; rw [List.getElem?_drop, Array.getElem?_toList]; exact h j hj
  · rename_i hj; rw [List.getElem?_eq_none (by omega)]
theorem row_part {cs : Array Value} {o m : Nat} {vs us : List Value} (h : row cs o m = some vs) (j k : Nat) (hk : 0 < k) (hl : us.length = k) (hu : (vs.drop j).take k = us) : row cs (o + j) k = some us := by
  refine row_mk hk hl fun i hi => ?_
  have h2 := row_length h
  have h1 : us[i]? = vs[j + i]? := by rw [← hu, List.getElem?_take, if_pos hi, List.getElem?_drop]
  have hlt : j + i < vs.length := by
    have h3 : (us[i]?).isSome := by rw [List.getElem?_eq_getElem (by omega)]; rfl
    rw [h1] at h3
    rcases Nat.lt_or_ge (j + i) vs.length with h4 | h4
    · exact h4
    · rw [List.getElem?_eq_none h4] at h3; cases h3
  rw [h1, Nat.add_assoc]
  have := row_cell h (j + i) (v := vs[j + i]) (List.getElem?_eq_getElem hlt)
  rw [this, List.getElem?_eq_getElem hlt]
theorem flatMap_get {X : Type} {f : X → List Value} {m : Nat} (hf : ∀ x, (f x).length = m) : ∀ (xs : List X) (i j : Nat) (x : X), xs[i]? = some x → j < m → (xs.flatMap f)[i * m + j]? = (f x)[j]?
  | [], i, j, x, h, _ => by cases h
  | y :: ys, 0, j, x, h, hj => by
    simp at h; subst h
    rw [List.flatMap_cons, List.getElem?_append_left (by rw [hf]; omega)]; simp
  | y :: ys, i + 1, j, x, h, hj => by
    rw [List.flatMap_cons, List.getElem?_append_right (by rw [hf, Nat.succ_mul]; omega), hf, show (i + 1) * m + j - m = i * m + j by rw [Nat.succ_mul]; omega]
    exact flatMap_get hf ys i j x (by simpa using h) hj
theorem flatMap_length {X : Type} {f : X → List Value} {m : Nat} (hf : ∀ x, (f x).length = m) (xs : List X) : (xs.flatMap f).length = xs.length * m := by
  induction xs with
  | nil => simp
  | cons x xs ih => rw [List.flatMap_cons, List.length_append, ih, hf, List.length_cons, Nat.succ_mul]; omega
/-- One element of a slice that is known. -/
theorem Rd.row {X : Type} {f : X → List Value} {m : Nat} (hf : ∀ x, (f x).length = m) (hm : 0 < m) {p : Option Addr} {len : Nat} {xs : List X} (h : Rd σ m p len (xs.flatMap f)) {i : Nat} {x : X} (hx : xs[i]? = some x) :
    ∃ b o cs T fz, p = some ⟨b, o, none⟩ ∧ σ b = some (.cells cs T fz) ∧ i < len ∧ row cs (o + i * m) m = some (f x) := by
  obtain ⟨h1, h2⟩ := h
  have hlt : i < xs.length := (List.getElem?_eq_some_iff.1 hx).1
  rw [flatMap_length hf] at h1
  have hlen : xs.length = len := Nat.eq_of_mul_eq_mul_right hm h1
  cases p with
  | none => simp at h2; omega
  | some a =>
    obtain ⟨b, o, s⟩ := a
    rcases h2 with h0 | ⟨hs, cs, T, fz, hb, hc⟩
    · omega
    simp only at hs; subst hs
    refine ⟨b, o, cs, T, fz, rfl, hb, by omega, row_mk hm (hf x) fun j hj => ?_⟩
    have hle : i * m + j < len * m := by
      have : (i + 1) * m ≤ len * m := Nat.mul_le_mul_right m (by omega)
      rw [Nat.succ_mul] at this; omega
    rw [Nat.add_assoc, hc _ hle]
    exact flatMap_get hf xs i j x hx hj
theorem Rd.len {X : Type} {f : X → List Value} {m : Nat} (hf : ∀ x, (f x).length = m) (hm : 0 < m) {p : Option Addr} {len : Nat} {xs : List X} (h : Rd σ m p len (xs.flatMap f)) : len = xs.length := by
  have h1 := h.1
  rw [flatMap_length hf] at h1
  exact (Nat.eq_of_mul_eq_mul_right hm h1).symm
end
end Go.Gw
