/- The operations that turn the world: calls, new blocks, stores, append. -/
import Derived.Test.YtdgdbnkhmdncdaaGwC
set_option linter.unusedSectionVars false
set_option linter.unusedSimpArgs false
set_option linter.unusedVariables false
namespace Go.Gw
variable [Env]
section
variable {P : Program} {n : Nat} {ty : TypeId} {l : Slots} {σ : Heap} {K : Value → Heap → Prop}

def evs (l : Slots) : List Operand → Option (List Value)
  | [] => some []
  | x :: xs => (ev l x).bind fun v => (evs l xs).map (v :: ·)
theorem evs_eval {a : Act} (ha : Fr n l a) : ∀ (xs : List Operand) (vs : List Value), evs l xs = some vs → xs.map a.eval = vs
  | [], vs, h => by simp only [evs, Option.some.injEq] at h; subst h; rfl
  | x :: xs, vs, h => by
    simp only [evs] at h
    cases hx : ev l x with
    | none => rw [hx] at h; cases h
    | some v =>
      rw [hx] at h
      simp only [Option.bind_some, Option.map_eq_some_iff] at h
      obtain ⟨us, hu, rfl⟩ := h
      simp [ha.eval hx, evs_eval ha xs us hu]

/-! ### Calls -/
def callable (P : Program) (g : FuncId) : Bool := match P.funcs[g]? with | some fn => fn.name != "runtime.NumGoroutine" && fn.body.isSome | none => false
theorem callFunc_run {g : FuncId} {args : Array Value} (hc : callable P g = true) (w : World) : (callFunc g args).run P w = .ok (.enter g args) w := by
  unfold callable at hc
  split at hc
  · rename_i fn hf
    simp only [Bool.and_eq_true, bne_iff_ne, ne_eq] at hc
    obtain ⟨h1, h2⟩ := hc
    obtain ⟨c, h3⟩ := Option.isSome_iff_exists.1 h2
    simp [callFunc, program, Sem.run, hf, h1, h3]
  · cases hc

theorem e_call {c : Call} {fo : Operand} {xs : List Operand} {g : FuncId} {us cs : Array Value} {vl : List Value} {args : Array Value} (hc : c.callee = .value fo) (hx : c.args.toList = xs) (hf : ev l fo = some (.func (.func g) us cs)) (hv : evs l xs = some vl) (ha : us ++ vl.toArray ++ cs = args)
    (hb : callable P g = true) (h : Does P g args σ K) : EOp P n (.call c) ty l σ K := .mk fun a w hfr hw dst pos af gd => by
  have e1 : c.args.map a.eval = vl.toArray := by
    apply Array.toList_inj.1
    simp only [Array.toList_map, hx]
    exact evs_eval hfr _ _ hv
  have e2 : (execOp a.eval ⟨dst, .call c, ty, pos, af, gd⟩).run P w = .ok (.enter g args) w := by
    simp only [execOp, resolve, hc, hfr.eval hf, Deferred.ofValue, e1]
    simp only [Sem.run_bind]
    show ((invoke (.fn (.func g) cs) (us ++ vl.toArray)).run P w) = _
    simp only [invoke, ha]
    exact callFunc_run hb w
  rw [e2]
  exact h w hw
/-- .. of a function by its name. -/
theorem e_callF {c : Call} {xs : List Operand} {g : FuncId} {vl : List Value} (hc : c.callee = .value (.func g)) (hx : c.args.toList = xs) (hv : evs l xs = some vl)
    (hb : callable P g = true) (h : Does P g vl.toArray σ K) : EOp P n (.call c) ty l σ K :=
  e_call (us := #[]) (cs := #[]) (args := vl.toArray) hc hx rfl hv (by simp) hb h

/-! ### New blocks -/
def zeroOf (P : Program) (t : TypeId) : Option (Array Value) := match P.info? t with | some d => d.zero.map Value.cells | none => none
theorem zeroOf_run {t : TypeId} {cs : Array Value} (h : zeroOf P t = some cs) (w : World) : ∃ z, (zeroValue t).run P w = .ok z w ∧ z.cells = cs := by
  unfold zeroOf at h
  split at h
  · rename_i d hd
    cases hz : d.zero with
    | none => rw [hz] at h; cases h
    | some z => rw [hz] at h; simp at h; exact ⟨z, by simp [zeroValue, typeInfo, program, Sem.run, hd, hz], h⟩
  · cases h

theorem new_run (o : Obj) {w : World} (hw : Sat w σ) : ∃ b, b = w.heap.size ∧ σ b = none ∧ Sat { w with heap := w.heap.push o } (upd σ b o) := ⟨_, rfl, hw.fresh, hw.push o⟩

theorem e_alloc {t : TypeId} {cs : Array Value} (hz : zeroOf P t = some cs) (h : ∀ b τ, New σ b (.cells cs t (0, 0)) τ → K (.pointer (some ⟨b, 0, none⟩)) τ) : EOp P n (.alloc t) ty l σ K := .mk fun a w _ hw dst pos af g => by
  obtain ⟨z, h1, h2⟩ := zeroOf_run hz w
  have e : (execOp a.eval ⟨dst, .alloc t, ty, pos, af, g⟩).run P w = .ok (.value (.pointer (some ⟨w.heap.size, 0, none⟩))) { w with heap := w.heap.push (.cells cs t) } := by
    simp [execOp, Instr.alloc, h1, newVar, newRow, newObj, Sem.run, h2]
  rw [e]
  exact ⟨_, hw.push _, h _ _ (New.upd _ hw.fresh)⟩
theorem e_box {t : TypeId} {x : Operand} {v : Value} {cs : Array Value} (hx : ev l x = some v) (hc : v.cells = cs) (h : ∀ b τ, New σ b (.cells cs t (0, 0)) τ → K (.pointer (some ⟨b, 0, none⟩)) τ) : EOp P n (.box t x) ty l σ K := .mk fun a w ha hw dst pos af g => by
  have e : (execOp a.eval ⟨dst, .box t x, ty, pos, af, g⟩).run P w = .ok (.value (.pointer (some ⟨w.heap.size, 0, none⟩))) { w with heap := w.heap.push (.cells cs t) } := by
    simp [execOp, Instr.box, ha.eval hx, newVar, newRow, newObj, Sem.run, hc]
  rw [e]
  exact ⟨_, hw.push _, h _ _ (New.upd _ hw.fresh)⟩
theorem e_makeMap {t : TypeId} (h : ∀ b τ, New σ b (.map #[] 0) τ → K (.map (some b)) τ) : EOp P n (.makeMap t none) ty l σ K := .mk fun a w _ hw dst pos af g => by
  have e : (execOp a.eval ⟨dst, .makeMap t none, ty, pos, af, g⟩).run P w = .ok (.value (.map (some w.heap.size))) { w with heap := w.heap.push (.map #[] 0) } := by
    simp [execOp, Instr.makeMap, newObj, Sem.run]
  rw [e]
  exact ⟨_, hw.push _, h _ _ (New.upd _ hw.fresh)⟩

def evp (l : Slots) : List (Nat × Operand) → Option (List (Nat × Value))
  | [] => some []
  | (i, x) :: xs => (ev l x).bind fun v => (evp l xs).map ((i, v) :: ·)
theorem evp_eval {a : Act} (ha : Fr n l a) : ∀ (xs : List (Nat × Operand)) (vs : List (Nat × Value)), evp l xs = some vs → xs.map (fun (i, x) => (i, a.eval x)) = vs
  | [], vs, h => by simp only [evp, Option.some.injEq] at h; subst h; rfl
  | (i, x) :: xs, vs, h => by
    simp only [evp] at h
    cases hx : ev l x with
    | none => rw [hx] at h; cases h
    | some v =>
      rw [hx] at h
      simp only [Option.bind_some, Option.map_eq_some_iff] at h
      obtain ⟨us, hu, rfl⟩ := h
      simp [ha.eval hx, evp_eval ha xs us hu]
theorem evp_arr {a : Act} (ha : Fr n l a) {ps : Array (Nat × Operand)} {vs : List (Nat × Value)} (h : evp l ps.toList = some vs) : (ps.map fun (i, x) => (i, a.eval x)) = vs.toArray := by
  apply Array.toList_inj.1
  rw [Array.toList_map]
  exact evp_eval ha _ _ h

/-- The places of a struct's fields. -/
def places (P : Program) (t : TypeId) : Option (Array (Nat × Nat)) :=
  match P.underlying t with
  | some (.struct fs) => (fs.toList.mapM fun f => (P.info? f.type).map fun d => (f.offset, d.size)).map List.toArray
  | _ => none
theorem mapM_places : ∀ (fs : List Field) (ps : List (Nat × Nat)) (w : World), (fs.mapM fun f => (P.info? f.type).map fun d => (f.offset, d.size)) = some ps →
    (fs.mapM (m := Sem) fun f => do pure (f.offset, ← sizeOf f.type)).run P w = .ok ps w
  | [], ps, w, h => by simp at h; subst h; rfl
  | f :: fs, ps, w, h => by
    rw [List.mapM_cons] at h
    cases hd : P.info? f.type with
    | none => rw [hd] at h; simp at h
    | some d =>
      rw [hd] at h
      simp only [Option.map_some, Option.bind_eq_bind, Option.bind_some] at h
      cases hr : (fs.mapM fun f => (P.info? f.type).map fun d => (f.offset, d.size)) with
      | none => rw [hr] at h; simp at h
      | some qs =>
        rw [hr] at h
        simp at h
        subst h
        rw [List.mapM_cons]
        have := mapM_places fs qs w hr
        have hs : (sizeOf f.type).run P w = .ok d.size w := by simp [sizeOf, typeInfo, program, Sem.run, hd]
        simp only [Sem.run_bind, hs, Result.andThen_ok]
        show ((Sem.run P (fs.mapM (m := Sem) fun f => do pure (f.offset, ← sizeOf f.type)) w).andThen fun a w' => Sem.run P (pure ((f.offset, d.size) :: a)) w') = _
        rw [this]; rfl
theorem q_build {t : TypeId} {ps : Array (Nat × Operand)} {vs : List (Nat × Value)} {z cs : Array Value} {pl : Array (Nat × Nat)} (hv : evp l ps.toList = some vs) (hz : zeroOf P t = some z) (hp : places P t = some pl)
    (hf : Instr.fill (pl[·]?) z vs = some cs) : QOp P n (.build t ps) ty l σ (.agg cs) := .mk fun a w ha _ _ _ _ _ => by
  obtain ⟨zv, h1, h2⟩ := zeroOf_run hz w
  unfold places at hp
  split at hp
  · rename_i fs hu
    rw [Option.map_eq_some_iff] at hp
    obtain ⟨ql, hq, rfl⟩ := hp
    have hm := mapM_places fs.toList ql w hq
    have hm' : (fs.mapM (m := Sem) fun f => do pure (f.offset, ← sizeOf f.type)).run P w = .ok ql.toArray w := by
      rw [Array.mapM_eq_mapM_toList, Sem.run_map, hm]; rfl
    simp only [execOp, evp_arr ha hv, Instr.build]
    simp only [Sem.run_bind, h1, Result.andThen_ok, run_underlying hu, hm', h2]
    rw [hf]
    rfl
  · cases hp
/-- A slice's type: its element's, and that one's cells. -/
def sliceOf (P : Program) (t : TypeId) : Option (TypeId × Nat) :=
  match P.underlying t with
  | some (.slice e) => (P.info? e).map fun d => (e, d.size)
  | _ => none
theorem sliceOf_some {t e : TypeId} {m : Nat} (h : sliceOf P t = some (e, m)) : P.underlying t = some (.slice e) ∧ ∃ d, P.info? e = some d ∧ d.size = m := by
  unfold sliceOf at h
  split at h
  · rename_i e' hu
    cases hd : P.info? e' with
    | none => rw [hd] at h; cases h
    | some d => rw [hd] at h; simp at h; obtain ⟨rfl, rfl⟩ := h; exact ⟨hu, d, hd, rfl⟩
  · cases h
/-- A row of zeroes. -/
def zrow (z : Array Value) (k : Nat) : Array Value := (Array.range k).map (z[· % z.size]!)
/-- A slice that is laid out. -/
theorem e_buildSlice {t e : TypeId} {m em : Nat} {ps : Array (Nat × Operand)} {vs : List (Nat × Value)} {z zs cs : Array Value} (hu : sliceOf P t = some (e, em)) (hz : zeroOf P e = some z) (hzs : zrow z (m * em) = zs) (hv : evp l ps.toList = some vs)
    (hm : Nat.beq (m * em) 0 = false) (hm2 : Nat.blt 16777216 (m * em) = false)
    (hf : Instr.fill (fun i => some (i * em, em)) zs vs = some cs) (h : ∀ b τ, New σ b (.cells cs e (0, 0)) τ → K (.slice (some ⟨b, 0, none⟩) m m) τ) : EOp P n (.buildSlice t m ps) ty l σ K := .mk fun a w ha hw dst pos af g => by
  obtain ⟨zv, h1, h2⟩ := zeroOf_run hz w
  obtain ⟨hu', d, hd, rfl⟩ := sliceOf_some hu
  rw [← hzs, zrow] at hf
  have hm : (m * d.size = 0) = False := by
    refine eq_false fun h => ?_
    rw [h] at hm; exact absurd hm (by decide)
  have hm2 : (m * d.size > 2 ^ 24) = False := by
    refine eq_false fun h => ?_
    have h' : Nat.blt 16777216 (m * d.size) = true := by simpa [Nat.blt_eq] using h
    rw [h'] at hm2; cases hm2
  have e : (execOp a.eval ⟨dst, .buildSlice t m ps, ty, pos, af, g⟩).run P w = .ok (.value (.slice (some ⟨w.heap.size, 0, none⟩) m m)) { w with heap := w.heap.push (.cells cs e) } := by
    simp only [execOp, evp_arr ha hv, Instr.buildSlice]
    simp only [Sem.run_bind, run_underlying hu', Result.andThen_ok]
    simp only [sizeOf, typeInfo, program, Sem.run_bind, Sem.run, hd, Result.andThen_ok, pure, hm2, if_false, hm]
    simp only [Sem.run_bind, h1, Result.andThen_ok, h2, hf, newRow, newObj, Sem.run]
    rfl
  rw [e]
  exact ⟨_, hw.push _, h _ _ (New.upd _ hw.fresh)⟩

/-! ### Stores -/
/-- One cell's value, not several cells'. -/
def flat : Value → Bool
  | .agg _ | .tuple _ => false
  | _ => true
def allFlat : List Value → Bool
  | [] => true
  | v :: vs => match flat v with
    | true => allFlat vs
    | false => false
theorem allFlat_mem : ∀ {vs : List Value}, allFlat vs = true → ∀ u ∈ vs, flat u = true
  | v :: vs, h, u, hu => by
    simp only [allFlat] at h
    cases hv : flat v with
    | false => rw [hv] at h; cases h
    | true =>
      rw [hv] at h
      rcases List.mem_cons.1 hu with rfl | hu
      · exact hv
      · exact allFlat_mem h u hu
def setRow (cs : Array Value) : Nat → List Value → Array Value
  | _, [] => cs
  | o, v :: vs => setRow (cs.setIfInBounds o v) (o + 1) vs
theorem setRow_size : ∀ (vs : List Value) (cs : Array Value) (o : Nat), (setRow cs o vs).size = cs.size
  | [], _, _ => rfl
  | v :: vs, cs, o => by rw [setRow, setRow_size vs]; simp
theorem setRow_get : ∀ (vs : List Value) (cs : Array Value) (o i : Nat), (setRow cs o vs)[i]? = if o ≤ i ∧ i < o + vs.length ∧ i < cs.size then vs[i - o]? else cs[i]?
  | [], cs, o, i => by rw [setRow, if_neg (by simp; omega)]
  | v :: vs, cs, o, i => by
    rw [setRow, setRow_get vs]
    simp only [Array.size_setIfInBounds, List.length_cons]
    by_cases h1 : i = o
    · subst h1
      rw [if_neg (by omega)]
      by_cases h2 : i < cs.size
      · rw [if_pos (by omega)]; simp [h2]
      · rw [if_neg (by omega)]; simp [h2]
    · rw [Array.getElem?_setIfInBounds_ne (Ne.symm h1)]
      by_cases h2 : o + 1 ≤ i ∧ i < o + 1 + vs.length ∧ i < cs.size
      · rw [if_pos h2, if_pos (by omega), show i - o = (i - (o + 1)) + 1 by omega]; simp
      · rw [if_neg h2, if_neg (by omega)]

theorem frozen_no {w : World} (hw : HSat w σ) {b o : Nat} {cs : Array Value} {T : TypeId} (hb : σ b = some (.cells cs T (0, 0))) : w.frozen? ⟨b, o, none⟩ = false := by
  simp [World.frozen?, hw b _ hb]
theorem store1_run {w : World} (hw : Sat w σ) {b o : Nat} {cs : Array Value} {T : TypeId} {v : Value} (hb : σ b = some (.cells cs T (0, 0))) (ho : o < cs.size) (hf : flat v = true) :
    ∃ w', (store ⟨b, o, none⟩ v).run P w = .ok () w' ∧ Sat w' (upd σ b (.cells (cs.setIfInBounds o v) T (0, 0))) := by
  have hc : w.cell? ⟨b, o, none⟩ = some cs[o] := hw.heap.cell hb (Array.getElem?_eq_getElem ho)
  have hm := hw.modify (fun | .cells c elem frozen => .cells (c.setIfInBounds o v) elem frozen | o => o) hb
  refine ⟨w.setCell ⟨b, o, none⟩ v, ?_, ?_⟩
  · cases v <;> first | (simp [store, Sem.run, hc, frozen_no hw.heap hb]; done) | cases hf
  · exact hm
theorem storeCells_run {b : Nat} {T : TypeId} {o : Nat} : ∀ (vs : List Value) (i : Nat) (σ : Heap) (w : World) (cs : Array Value), Sat w σ → σ b = some (.cells cs T (0, 0)) → o + i + vs.length ≤ cs.size → (∀ v ∈ vs, flat v = true) →
    ∃ w', (storeCells ⟨b, o, none⟩ vs i).run P w = .ok () w' ∧ Sat w' (upd σ b (.cells (setRow cs (o + i) vs) T (0, 0)))
  | [], i, σ, w, cs, hw, hb, _, _ => ⟨w, rfl, by
    refine ⟨?_, hw.os, hw.out⟩
    intro c p hc
    by_cases he : c = b
    · subst he; rw [upd_same] at hc; cases hc; exact hw c _ hb
    · rw [upd_ne σ _ he] at hc; exact hw c p hc⟩
  | v :: vs, i, σ, w, cs, hw, hb, hl, hf => by
    simp only [List.length_cons] at hl
    obtain ⟨w1, h1, h2⟩ := store1_run (P := P) hw (o := o + i) hb (by omega) (hf v (by simp))
    obtain ⟨w2, h3, h4⟩ := storeCells_run (o := o) vs (i + 1) _ w1 _ h2 (upd_same _ _ _) (by simp; omega) (fun u hu => hf u (by simp [hu]))
    refine ⟨w2, ?_, ?_⟩
    · simp only [storeCells, add_plain', Sem.run_bind, h1, Result.andThen_ok]; exact h3
    · rw [upd_upd] at h4; exact h4
/-- How many cells a type's variable has. -/
def szOf (P : Program) (t : TypeId) : Option Nat := (P.info? t).map (·.size)
theorem e_store {t : TypeId} {x y : Operand} {b o m : Nat} {cs cs' : Array Value} {T : TypeId} {v : Value} (hx : ev l x = some (.pointer (some ⟨b, o, none⟩))) (hy : ev l y = some v) (hd : szOf P t = some m) (hs : v.cells.size = m)
    (hb : σ b = some (.cells cs T (0, 0))) (hl : o + m ≤ cs.size) (hf : allFlat v.cells.toList = true) (hc : setRow cs o v.cells.toList = cs') (h : ∀ τ, τ b = some (.cells cs' T (0, 0)) → But σ b τ → K undef τ) : EOp P n (.store t x y) ty l σ K := .mk fun a w ha hw dst pos af g => by
  obtain ⟨d, hd', rfl⟩ : ∃ d, P.info? t = some d ∧ d.size = m := by simpa [szOf, Option.map_eq_some_iff] using hd
  obtain ⟨w', h1, h2⟩ := storeCells_run (P := P) v.cells.toList 0 σ w cs hw hb (o := o) (by simp; omega) (allFlat_mem hf)
  have e : (execOp a.eval ⟨dst, .store t x y, ty, pos, af, g⟩).run P w = .ok .skip w' := by
    simp only [execOp, ha.eval hx, ha.eval hy, Instr.storeAt, Instr.sureAddr]
    simp [storeVar, sizeOf, typeInfo, program, Sem.run, hd', hs, h1]
  rw [e]
  exact ⟨_, by simpa [hc] using h2, h _ (upd_same _ _ _) (But.upd _ _ _)⟩
end
end Go.Gw
