/- Maps: what a map's block says, as a function of keys; its operations. -/
import Derived.Test.YtdgdbnkhmdncdaaGwE
import Derived.WideKeyRuns
import Derived.Laws.StructEq
set_option linter.unusedSectionVars false
set_option linter.unusedSimpArgs false
set_option linter.unusedVariables false
namespace Go.Gw
variable [Env]
section
variable {P : Program} {n : Nat} {ty : TypeId} {l : Slots} {σ : Heap} {K : Value → Heap → Prop}

/-- What is asked of a type of keys. -/
structure KeyT (P : Program) (kt : TypeId) {κ : Type} (enc : κ → Value) : Prop where
  inj : ∀ a b, enc a = enc b → a = b
  check : ∀ em k w, (Instr.checkKey em 10000 kt (enc k)).run P w = .ok () w
  hit : ∀ k (es : List MapEntry) (ks : List κ) w, es.map (·.key) = ks.map enc →
    ((Instr.findKey kt (enc k) es).run P w = .ok none w ∧ k ∉ ks) ∨ ∃ j e, (Instr.findKey kt (enc k) es).run P w = .ok (some (j, e.val)) w ∧ es[j]? = some e ∧ ks[j]? = some k
  same : ∀ k, Instr.sameBits 10000 (enc k) (enc k) = true

theorem findAsking_hit {kt : TypeId} {κ : Type} {enc : κ → Value} (heq : ∀ a b w, ∃ r : Bool, (Op.equal kt (enc a) (enc b)).run P w = .ok r w ∧ (r = true ↔ a = b)) (k : κ) (w : World) : ∀ (es : List MapEntry) (ks : List κ) (i : Nat), es.map (·.key) = ks.map enc →
    ((Instr.findAsking kt (enc k) es i).run P w = .ok none w ∧ k ∉ ks) ∨ ∃ j e, (Instr.findAsking kt (enc k) es i).run P w = .ok (some (i + j, e.val)) w ∧ es[j]? = some e ∧ ks[j]? = some k
  | [], [], i, _ => .inl ⟨by simp [Instr.findAsking], by simp⟩
  | [], _ :: _, i, h => by simp at h
  | _ :: _, [], i, h => by simp at h
  | e :: es, q :: ks, i, h => by
    simp only [List.map_cons, List.cons.injEq] at h
    obtain ⟨h1, h2⟩ := h
    obtain ⟨r, hr, hiff⟩ := heq k q w
    cases hrt : r with
    | true =>
      rw [hrt] at hr hiff
      have : k = q := hiff.1 rfl
      subst this
      exact .inr ⟨0, e, by simp [Instr.findAsking, h1, hr], by simp, by simp⟩
    | false =>
      rw [hrt] at hr hiff
      have hne : k ≠ q := fun he => by have := hiff.2 he; cases this
      rcases findAsking_hit heq k w es ks (i + 1) h2 with ⟨h3, h4⟩ | ⟨j, e', h3, h4, h5⟩
      · exact .inl ⟨by simp [Instr.findAsking, h1, hr, h3], by simp [hne, h4]⟩
      · refine .inr ⟨j + 1, e', ?_, by simpa using h4, by simpa using h5⟩
        have : i + (j + 1) = i + 1 + j := by omega
        rw [this]
        simp [Instr.findAsking, h1, hr, h3]

theorem KeyT.int {kt : TypeId} {kd : IntKind} (hu : P.underlying kt = some (.int kd)) : KeyT P kt (fun a : Int => Value.int kd a) where
  inj a b h := by simpa using h
  check em k w := by
    have : ∀ m, (Instr.checkKey em (m + 1) kt (.int kd k)).run P w = .ok () w := fun m => by simp [Instr.checkKey, run_underlying hu]
    exact this 9999
  same k := by
    have : ∀ m, Instr.sameBits m (.int kd k) (.int kd k) = true := fun m => by cases m <;> simp [Instr.sameBits]
    exact this _
  hit k es ks w h := by
    have key : ∀ (es : List MapEntry) (ks : List Int) (i : Nat), es.map (·.key) = ks.map (Value.int kd) →
        (Instr.findNow (.int kd) (.int kd k) es i = some none ∧ k ∉ ks) ∨ ∃ j e, Instr.findNow (.int kd) (.int kd k) es i = some (some (i + j, e.val)) ∧ es[j]? = some e ∧ ks[j]? = some k := by
      intro es
      induction es with
      | nil => intro ks i h; cases ks with
        | nil => exact .inl ⟨rfl, by simp⟩
        | cons _ _ => simp at h
      | cons e es ih =>
        intro ks i h
        cases ks with
        | nil => simp at h
        | cons q ks =>
          simp only [List.map_cons, List.cons.injEq] at h
          obtain ⟨h1, h2⟩ := h
          by_cases hkq : k = q
          · subst hkq
            exact .inr ⟨0, e, by simp [Instr.findNow, Instr.sameNow, h1], by simp, by simp⟩
          · have hb : (k == q) = false := by simpa using hkq
            rcases ih ks (i + 1) h2 with ⟨h3, h4⟩ | ⟨j, e', h3, h4, h5⟩
            · exact .inl ⟨by simp [Instr.findNow, Instr.sameNow, h1, hb, h3], by simp [hkq, h4]⟩
            · refine .inr ⟨j + 1, e', ?_, by simpa using h4, by simpa using h5⟩
              have : i + (j + 1) = i + 1 + j := by omega
              rw [this]; simp [Instr.findNow, Instr.sameNow, h1, hb, h3]
    rcases key es ks 0 h with ⟨h1, h2⟩ | ⟨j, e, h1, h2, h3⟩
    · exact .inl ⟨by simp [Instr.findKey, run_underlying hu, h1], h2⟩
    · exact .inr ⟨j, e, by simp [Instr.findKey, run_underlying hu, h1], h2, h3⟩

/-- A type of which the values are several cells. -/
@[irreducible] def wide (P : Program) (t : TypeId) : Bool := match P.underlying t with | some (.array _ _) | some (.struct _) => true | _ => false
theorem KeyT.struct {kt : TypeId} {κ : Type} {enc : κ → Value} (hwide : wide P kt = true)
    (inj : ∀ a b, enc a = enc b → a = b) (check : ∀ em k w, (Instr.checkKey em 10000 kt (enc k)).run P w = .ok () w)
    (heq : ∀ a b w, ∃ r : Bool, (Op.equal kt (enc a) (enc b)).run P w = .ok r w ∧ (r = true ↔ a = b)) (same : ∀ k, Instr.sameBits 10000 (enc k) (enc k) = true) : KeyT P kt enc where
  inj := inj
  check := check
  same := same
  hit k es ks w h := by
    rw [run_findKey_eq w (by unfold wide at hwide; exact hwide)]
    have := findAsking_hit heq k w es ks 0 h
    simpa using this

/-- Block b is a map that says this. -/
def MapIs {κ : Type} (σ : Heap) (enc : κ → Value) (b : Nat) (al : List (κ × Value)) : Prop :=
  ∃ es clock, σ b = some (.map es clock) ∧ es.toList.map (fun e => (e.key, e.val)) = al.map (fun p => (enc p.1, p.2)) ∧ (al.map (·.1)).Nodup ∧ (es.toList.map (·.born)).Nodup ∧ ∀ e ∈ es.toList, e.born < clock

/-- The first pair of a key. -/
def look {κ : Type} [DecidableEq κ] (al : List (κ × Value)) (k : κ) : Option Value := match al with
  | [] => none
  | (q, v) :: r => if q = k then some v else look r k
def put {κ : Type} [DecidableEq κ] (al : List (κ × Value)) (k : κ) (v : Value) : List (κ × Value) := match al with
  | [] => [(k, v)]
  | (q, u) :: r => if q = k then (k, v) :: r else (q, u) :: put r k v
def del {κ : Type} [DecidableEq κ] (al : List (κ × Value)) (k : κ) : List (κ × Value) := match al with
  | [] => []
  | (q, u) :: r => if q = k then r else (q, u) :: del r k

section
variable {κ : Type} [DecidableEq κ] {enc : κ → Value}
theorem look_put (al : List (κ × Value)) (k q : κ) (v : Value) : look (put al k v) q = if k = q then some v else look al q := by
  induction al with
  | nil => simp [put, look]
  | cons p r ih =>
    obtain ⟨a, u⟩ := p
    simp only [put]
    by_cases h : a = k
    · subst h; simp only [if_true, look]; by_cases h2 : a = q <;> simp [h2]
    · simp only [h, if_false, look, ih]
      by_cases h2 : a = q
      · subst h2; simp [Ne.symm h]
      · simp [h2]
theorem look_none {al : List (κ × Value)} {k : κ} (h : k ∉ al.map (·.1)) : look al k = none := by
  induction al with
  | nil => rfl
  | cons p r ih =>
    obtain ⟨a, u⟩ := p
    simp only [List.map_cons, List.mem_cons, not_or] at h
    simp only [look]; rw [if_neg (Ne.symm h.1)]; exact ih h.2
theorem look_at {al : List (κ × Value)} {k : κ} {j : Nat} {v : Value} (hd : (al.map (·.1)).Nodup) (h : al[j]? = some (k, v)) : look al k = some v := by
  induction al generalizing j with
  | nil => simp at h
  | cons p r ih =>
    obtain ⟨a, u⟩ := p
    simp only [List.map_cons, List.nodup_cons] at hd
    cases j with
    | zero => simp at h; obtain ⟨rfl, rfl⟩ := h; simp [look]
    | succ j =>
      simp at h
      have : k ∈ r.map (·.1) := List.mem_map.2 ⟨(k, v), List.mem_of_getElem? h, rfl⟩
      have hne : a ≠ k := fun e => hd.1 (e ▸ this)
      simp only [look, hne, if_false]; exact ih hd.2 h
theorem look_del (al : List (κ × Value)) (k q : κ) (hd : (al.map (·.1)).Nodup) : look (del al k) q = if k = q then none else look al q := by
  induction al with
  | nil => simp [del, look]
  | cons p r ih =>
    obtain ⟨a, u⟩ := p
    simp only [List.map_cons, List.nodup_cons] at hd
    simp only [del]
    by_cases h : a = k
    · subst h; simp only [if_true, look]
      by_cases h2 : a = q
      · subst h2; simp [look_none hd.1]
      · simp [h2]
    · simp only [h, if_false, look, ih hd.2]
      by_cases h2 : a = q
      · subst h2; simp [Ne.symm h]
      · simp [h2]
theorem put_new {al : List (κ × Value)} {k : κ} {v : Value} (h : k ∉ al.map (·.1)) : put al k v = al ++ [(k, v)] := by
  induction al with
  | nil => rfl
  | cons p r ih =>
    obtain ⟨a, u⟩ := p
    simp only [List.map_cons, List.mem_cons, not_or] at h
    simp only [put]; rw [if_neg (Ne.symm h.1), ih h.2]; rfl
theorem put_old {al : List (κ × Value)} {k : κ} {u v : Value} {j : Nat} (hd : (al.map (·.1)).Nodup) (h : al[j]? = some (k, u)) : put al k v = al.set j (k, v) := by
  induction al generalizing j with
  | nil => simp at h
  | cons p r ih =>
    obtain ⟨a, w⟩ := p
    simp only [List.map_cons, List.nodup_cons] at hd
    cases j with
    | zero => simp at h; obtain ⟨rfl, rfl⟩ := h; simp [put]
    | succ j =>
      simp at h
      have : k ∈ r.map (·.1) := List.mem_map.2 ⟨(k, u), List.mem_of_getElem? h, rfl⟩
      have hne : a ≠ k := fun e => hd.1 (e ▸ this)
      simp only [put, hne, if_false]; rw [ih hd.2 h]; rfl
theorem del_old {al : List (κ × Value)} {k : κ} {u : Value} {j : Nat} (hd : (al.map (·.1)).Nodup) (h : al[j]? = some (k, u)) : del al k = al.eraseIdx j := by
  induction al generalizing j with
  | nil => simp at h
  | cons p r ih =>
    obtain ⟨a, w⟩ := p
    simp only [List.map_cons, List.nodup_cons] at hd
    cases j with
    | zero => simp at h; obtain ⟨rfl, rfl⟩ := h; simp [del]
    | succ j =>
      simp at h
      have : k ∈ r.map (·.1) := List.mem_map.2 ⟨(k, u), List.mem_of_getElem? h, rfl⟩
      have hne : a ≠ k := fun e => hd.1 (e ▸ this)
      simp only [del, hne, if_false]; rw [ih hd.2 h]; rfl
theorem del_new {al : List (κ × Value)} {k : κ} (h : k ∉ al.map (·.1)) : del al k = al := by
  induction al with
  | nil => rfl
  | cons p r ih =>
    obtain ⟨a, u⟩ := p
    simp only [List.map_cons, List.mem_cons, not_or] at h
    simp only [del]; rw [if_neg (Ne.symm h.1), ih h.2]

end

section
variable {κ : Type} {enc : κ → Value}
theorem MapIs.empty {σ : Heap} {b : Nat} (h : σ b = some (.map #[] 0)) : MapIs σ enc b [] := ⟨#[], 0, h, rfl, by simp, by simp, by simp⟩
theorem MapIs.sub {σ τ : Heap} {b : Nat} {al : List (κ × Value)} (h : MapIs σ enc b al) (hb : τ b = σ b) : MapIs τ enc b al := by
  obtain ⟨es, ck, h1, hr⟩ := h; exact ⟨es, ck, hb.trans h1, hr⟩
theorem MapIs.there {σ : Heap} {b : Nat} {al : List (κ × Value)} (h : MapIs σ enc b al) : ∃ o, σ b = some o := by obtain ⟨es, ck, h1, _⟩ := h; exact ⟨_, h1⟩

theorem pairs_keys {es : List MapEntry} {al : List (κ × Value)} (h : es.map (fun e => (e.key, e.val)) = al.map (fun p => (enc p.1, p.2))) : es.map (·.key) = (al.map (·.1)).map enc := by
  have := congrArg (List.map Prod.fst) h
  simpa [List.map_map, Function.comp_def] using this
theorem pairs_at {es : List MapEntry} {al : List (κ × Value)} (h : es.map (fun e => (e.key, e.val)) = al.map (fun p => (enc p.1, p.2))) {j : Nat} {e : MapEntry} {k : κ} (he : es[j]? = .some e) (hk : (al.map (·.1))[j]? = .some k) : al[j]? = .some (k, e.val) ∧ e.key = enc k := by
  have := congrArg (fun q => q[j]?) h
  simp only [List.getElem?_map, he, Option.map_some] at this
  simp only [List.getElem?_map] at hk
  cases ha : al[j]? with
  | none => rw [ha] at hk; cases hk
  | some p =>
    rw [ha] at hk this
    simp only [Option.map_some, Option.some.injEq, Prod.mk.injEq] at hk this
    obtain ⟨q, v⟩ := p
    simp only at hk this
    obtain ⟨h1, h2⟩ := this
    subst hk
    exact ⟨by rw [h2], h1⟩

end

section
variable {κ : Type} [DecidableEq κ] {enc : κ → Value}
/-- What is found of a key in a map's block. -/
theorem MapIs.find {kt : TypeId} (hK : KeyT P kt enc) {σ : Heap} {b : Nat} {al : List (κ × Value)} (h : MapIs σ enc b al) (k : κ) : ∃ es clock, σ b = .some (.map es clock) ∧ es.size = al.length ∧
    ((∀ w, (Instr.findKey kt (enc k) es.toList).run P w = .ok none w) ∧ look al k = none ∧ k ∉ al.map (·.1) ∨ ∃ j e, (∀ w, (Instr.findKey kt (enc k) es.toList).run P w = .ok (.some (j, e.val)) w) ∧ es[j]? = .some e ∧ e.key = enc k ∧ al[j]? = .some (k, e.val) ∧ look al k = .some e.val) ∧
    es.toList.map (fun e => (e.key, e.val)) = al.map (fun p => (enc p.1, p.2)) ∧ (al.map (·.1)).Nodup ∧ (es.toList.map (·.born)).Nodup ∧ ∀ e ∈ es.toList, e.born < clock := by
  obtain ⟨es, clock, h1, h2, h3, h4, h5⟩ := h
  refine ⟨es, clock, h1, ?_, ?_, h2, h3, h4, h5⟩
  · have := congrArg List.length h2; simpa using this
  have hw := fun w => hK.hit k es.toList (al.map (·.1)) w (pairs_keys h2)
  by_cases hm : k ∈ al.map (·.1)
  · right
    have hall : ∀ w, ∃ j e, (Instr.findKey kt (enc k) es.toList).run P w = .ok (.some (j, e.val)) w ∧ es.toList[j]? = .some e ∧ (al.map (·.1))[j]? = .some k := fun w => by
      rcases hw w with ⟨_, h⟩ | h
      · exact absurd hm h
      · exact h
    obtain ⟨j, e, r1, r2, r3⟩ := hall default
    obtain ⟨r4, r5⟩ := pairs_at h2 r2 r3
    refine ⟨j, e, fun w => ?_, by simpa using r2, r5, r4, look_at h3 r4⟩
    obtain ⟨j', e', q1, q2, q3⟩ := hall w
    have : j' = j := by
      have hlt : j < (al.map (·.1)).length := (List.getElem?_eq_some_iff.1 r3).1
      have hlt' : j' < (al.map (·.1)).length := (List.getElem?_eq_some_iff.1 q3).1
      have e1 := (List.getElem?_eq_some_iff.1 r3).2
      have e2 := (List.getElem?_eq_some_iff.1 q3).2
      have hp := List.pairwise_iff_getElem.1 h3
      rcases Nat.lt_trichotomy j' j with h | h | h
      · exact absurd (e2.trans e1.symm) (hp _ _ hlt' hlt h)
      · exact h
      · exact absurd (e1.trans e2.symm) (hp _ _ hlt hlt' h)
    subst this
    rw [r2] at q2; cases q2
    exact q1
  · left
    refine ⟨fun w => ?_, look_none hm, hm⟩
    rcases hw w with ⟨h, _⟩ | ⟨j, e, _, _, h⟩
    · exact h
    · exact absurd (List.mem_of_getElem? h) hm
end

theorem map_erase' {α β : Type} (f : α → β) : ∀ (l : List α) (j : Nat), (l.eraseIdx j).map f = (l.map f).eraseIdx j
  | [], j => by simp
  | a :: l, 0 => rfl
  | a :: l, j + 1 => by simp [map_erase' f l j]

/-! ### The operations -/
theorem getObj_run {b : Nat} {w : World} (hw : HSat w σ) {es : Array MapEntry} {ck : Nat} (hb : σ b = some (.map es ck)) : (getObj b).run P w = .ok (.map es ck) w := by
  simp [getObj, Sem.run, hw b _ hb]
def zeroV (P : Program) (t : TypeId) : Option Value := match P.info? t with | some d => d.zero | none => none
section
variable {κ : Type} {enc : κ → Value} {kt et t : TypeId} {x : Operand} {b : Nat} {k : κ} {al : List (κ × Value)}
theorem q_lenM {c : Call} (hc : c = ⟨.builtin .len, #[x], #[t]⟩) (hu : P.underlying t = some (.map kt et)) (hx : ev l x = some (.map (some b))) (hm : MapIs σ enc b al) : QOp P n (.call c) ty l σ (.int .i64 al.length) := .mk fun a w ha hw _ _ _ _ => by
  subst hc
  obtain ⟨es, ck, h1, h2, _⟩ := hm
  have hs : es.size = al.length := by have := congrArg List.length h2; simpa using this
  simp [execOp, resolve, invoke, builtin, ha.eval hx, Builtin.len_, run_underlying hu, getObj_run (P := P) hw h1, goInt, hs]
theorem keyThatStays_run (hK : KeyT P kt enc) (w : World) : (Instr.keyThatStays (enc k) (enc k)).run P w = .ok (enc k) w := by
  simp [Instr.keyThatStays, hK.same]
end

section
variable {κ : Type} [DecidableEq κ] {enc : κ → Value} {kt et t : TypeId} {x y : Operand} {b : Nat} {k : κ} {al : List (κ × Value)} {z : Value}

theorem zeroV_run {t : TypeId} {z : Value} (h : zeroV P t = some z) (w : World) : (zeroValue t).run P w = .ok z w := by
  unfold zeroV at h
  split at h
  · rename_i d hd
    simp [zeroValue, typeInfo, program, Sem.run, hd, h]
  · cases h

theorem lookup_run (hu : P.underlying t = some (.map kt et)) (hK : KeyT P kt enc) (hz : zeroV P et = some z) (hm : MapIs σ enc b al) (ok : Bool) {w : World} (hw : HSat w σ) :
    (Instr.lookup t (.map (some b)) (enc k) ok).run P w = .ok (if ok then .tuple #[(look al k).getD z, .bool (look al k).isSome] else (look al k).getD z) w := by
  obtain ⟨es, ck, h1, _, h2, _⟩ := hm.find hK k
  have hg := getObj_run (P := P) hw h1
  rcases h2 with ⟨h3, h4, _⟩ | ⟨j, e, h3, _, _, _, h4⟩
  · cases ok <;> simp [Instr.lookup, run_underlying hu, hg, hK.check, h3, h4, zeroV_run hz]
  · cases ok <;> simp [Instr.lookup, run_underlying hu, hg, hK.check, h3, h4]
theorem q_lookup (hu : P.underlying t = some (.map kt et)) (hK : KeyT P kt enc) (hz : zeroV P et = some z) (hx : ev l x = some (.map (some b))) (hy : ev l y = some (enc k)) (hm : MapIs σ enc b al) {v : Value} (hv : (look al k).getD z = v) : QOp P n (.lookup t x y false) ty l σ v := .mk fun a w ha hw _ _ _ _ => by
  have := lookup_run (k := k) hu hK hz hm false hw
  simp [execOp, ha.eval hx, ha.eval hy, this, hv]
theorem q_lookup2 (hu : P.underlying t = some (.map kt et)) (hK : KeyT P kt enc) (hz : zeroV P et = some z) (hx : ev l x = some (.map (some b))) (hy : ev l y = some (enc k)) (hm : MapIs σ enc b al) {v : Value} {r : Bool} (hv : (look al k).getD z = v) (hr : (look al k).isSome = r) : QOp P n (.lookup t x y true) ty l σ (.tuple #[v, .bool r]) := .mk fun a w ha hw _ _ _ _ => by
  have := lookup_run (k := k) hu hK hz hm true hw
  simp [execOp, ha.eval hx, ha.eval hy, this, hv, hr]
theorem setObj_run {w : World} (hw : Sat w σ) {es : Array MapEntry} {ck : Nat} (hb : σ b = some (.map es ck)) (o : Obj) : ∃ w', (setObj b o).run P w = .ok () w' ∧ Sat w' (upd σ b o) := by
  refine ⟨{ w with heap := w.heap.setIfInBounds b o }, ?_, hw.setObj o hb⟩
  simp [setObj, Sem.run, hw b _ hb]
theorem MapIs.store {σ : Heap} {es : Array MapEntry} {ck : Nat} (h1 : es.toList.map (fun e => (e.key, e.val)) = al.map (fun p => (enc p.1, p.2))) (h2 : (al.map (·.1)).Nodup) (h3 : (es.toList.map (·.born)).Nodup) (h4 : ∀ e ∈ es.toList, e.born < ck)
    {j : Nat} {e : MapEntry} (_he : es[j]? = some e) (hk : al[j]? = some (k, e.val)) (v : Value) : MapIs (upd σ b (.map (es.modify j fun e => { e with key := enc k, val := v }) ck)) enc b (put al k v) := by
  have hmod : ∀ (l : List MapEntry) (j : Nat), (l.modify j fun e => { e with key := enc k, val := v }).map (fun e => (e.key, e.val)) = (l.map (fun e => (e.key, e.val))).modify j (fun _ => (enc k, v)) := by
    intro l
    induction l with
    | nil => intro j; cases j <;> rfl
    | cons a l ih => intro j; cases j with
      | zero => rfl
      | succ j => simp [ih]
  have hborn : ∀ (l : List MapEntry) (j : Nat), (l.modify j fun e => { e with key := enc k, val := v }).map (·.born) = l.map (·.born) := by
    intro l
    induction l with
    | nil => intro j; cases j <;> rfl
    | cons a l ih => intro j; cases j with
      | zero => rfl
      | succ j => simp [ih]
  refine ⟨_, ck, upd_same _ _ _, ?_, ?_, ?_, ?_⟩
  · rw [Array.toList_modify, hmod, h1, put_old h2 hk]
    rw [List.map_set]
    apply List.ext_getElem?
    intro i
    simp only [List.getElem?_modify, List.getElem?_set, List.length_map]
    by_cases hij : j = i
    · subst hij
      have hlt : j < al.length := (List.getElem?_eq_some_iff.1 hk).1
      simp [hlt]
    · simp [hij]
  · rw [put_old h2 hk]
    have : (al.set j (k, v)).map (·.1) = al.map (·.1) := by
      rw [List.map_set]
      apply List.ext_getElem?
      intro i
      simp only [List.getElem?_set, List.length_map, List.getElem?_map]
      by_cases hij : j = i
      · subst hij
        have hlt : j < al.length := (List.getElem?_eq_some_iff.1 hk).1
        have := (List.getElem?_eq_some_iff.1 hk).2
        simp [hlt, this]
      · simp [hij]
    rw [this]; exact h2
  · rw [Array.toList_modify, hborn]; exact h3
  · intro e he
    have : e.born ∈ ((es.modify j fun e => { e with key := enc k, val := v }).toList.map (·.born)) := List.mem_map.2 ⟨e, he, rfl⟩
    rw [Array.toList_modify, hborn] at this
    obtain ⟨e', he', hb⟩ := List.mem_map.1 this
    rw [← hb]; exact h4 e' he'
theorem MapIs.push {σ : Heap} {es : Array MapEntry} {ck : Nat} (h1 : es.toList.map (fun e => (e.key, e.val)) = al.map (fun p => (enc p.1, p.2))) (h2 : (al.map (·.1)).Nodup) (h3 : (es.toList.map (·.born)).Nodup) (h4 : ∀ e ∈ es.toList, e.born < ck)
    (hk : k ∉ al.map (·.1)) (v : Value) : MapIs (upd σ b (.map (es.push { key := enc k, val := v, born := ck }) (ck + 1))) enc b (put al k v) := by
  refine ⟨_, ck + 1, upd_same _ _ _, ?_, ?_, ?_, ?_⟩
  · rw [put_new hk]; simp [h1]
  · rw [put_new hk]; simp only [List.map_append, List.map_cons, List.map_nil]
    exact List.nodup_append.2 ⟨h2, by simp, fun a ha c hc => by simp at hc; subst hc; exact fun e => hk (e ▸ ha)⟩
  · simp only [Array.toList_push, List.map_append, List.map_cons, List.map_nil]
    exact List.nodup_append.2 ⟨h3, by simp, fun a ha c hc => by
      simp at hc; subst hc
      obtain ⟨e, he, hb⟩ := List.mem_map.1 ha
      have := h4 e he; omega⟩
  · intro e he
    simp only [Array.toList_push, List.mem_append, List.mem_singleton] at he
    rcases he with he | rfl
    · have := h4 e he; omega
    · simp

theorem e_mapUpdate {v : Value} {u : Operand} (hu : P.underlying t = some (.map kt et)) (hK : KeyT P kt enc) (hx : ev l x = some (.map (some b))) (hy : ev l y = some (enc k)) (hv : ev l u = some v) (hm : MapIs σ enc b al)
    (h : ∀ τ, MapIs τ enc b (put al k v) → But σ b τ → K undef τ) : EOp P n (.mapUpdate t x y u) ty l σ K := .mk fun a w ha hw dst pos af g => by
  obtain ⟨es, ck, h1, _, h2, h3, h4, h5, h6⟩ := hm.find hK k
  have hg := getObj_run (P := P) hw.heap h1
  rcases h2 with ⟨f1, _, f2⟩ | ⟨j, e, f1, f2, f3, f4, _⟩
  · obtain ⟨w', r1, r2⟩ := setObj_run (P := P) hw h1 (.map (es.push { key := enc k, val := v, born := ck }) (ck + 1))
    have hrun : (execOp a.eval ⟨dst, .mapUpdate t x y u, ty, pos, af, g⟩).run P w = .ok .skip w' := by
      simp [execOp, ha.eval hx, ha.eval hy, ha.eval hv, Instr.mapUpdate, run_underlying hu, hg, hK.check, f1, r1]
    rw [hrun]
    exact ⟨_, r2, h _ (MapIs.push h3 h4 h5 h6 f2 v) (But.upd _ _ _)⟩
  · obtain ⟨w', r1, r2⟩ := setObj_run (P := P) hw h1 (.map (es.modify j fun e => { e with key := enc k, val := v }) ck)
    have hrun : (execOp a.eval ⟨dst, .mapUpdate t x y u, ty, pos, af, g⟩).run P w = .ok .skip w' := by
      simp [execOp, ha.eval hx, ha.eval hy, ha.eval hv, Instr.mapUpdate, run_underlying hu, hg, hK.check, f1, f2, f3, keyThatStays_run hK, r1]
    rw [hrun]
    exact ⟨_, r2, h _ (MapIs.store (σ := σ) h3 h4 h5 h6 f2 f4 v) (But.upd _ _ _)⟩

/-- delete -/
theorem e_delete {c : Call} (hc : c = ⟨.builtin .delete, #[x, y], #[t, kt]⟩) (hu : P.underlying t = some (.map kt et)) (hK : KeyT P kt enc) (hx : ev l x = some (.map (some b))) (hy : ev l y = some (enc k)) (hm : MapIs σ enc b al)
    (h : ∀ τ, MapIs τ enc b (del al k) → But σ b τ → K (.tuple #[]) τ) : EOp P n (.call c) ty l σ K := .mk fun a w ha hw dst pos af g => by
  subst hc
  obtain ⟨es, ck, h1, _, h2, h3, h4, h5, h6⟩ := hm.find hK k
  have hg := getObj_run (P := P) hw.heap h1
  rcases h2 with ⟨f1, _, f2⟩ | ⟨j, e, f1, f2, f3, f4, _⟩
  · obtain ⟨w', r1, r2⟩ := setObj_run (P := P) hw h1 (.map es ck)
    have hrun : (execOp a.eval ⟨dst, .call ⟨.builtin .delete, #[x, y], #[t, kt]⟩, ty, pos, af, g⟩).run P w = .ok (.value (.tuple #[])) w' := by
      simp [execOp, resolve, invoke, builtin, ha.eval hx, ha.eval hy, Builtin.delete_, run_underlying hu, hg, hK.check, f1, r1]
    rw [hrun]
    exact ⟨_, r2, h _ ⟨es, ck, upd_same _ _ _, by rw [del_new f2]; exact h3, by rw [del_new f2]; exact h4, h5, h6⟩ (But.upd _ _ _)⟩
  · obtain ⟨w', r1, r2⟩ := setObj_run (P := P) hw h1 (.map (es.eraseIdxIfInBounds j) ck)
    have hrun : (execOp a.eval ⟨dst, .call ⟨.builtin .delete, #[x, y], #[t, kt]⟩, ty, pos, af, g⟩).run P w = .ok (.value (.tuple #[])) w' := by
      simp [execOp, resolve, invoke, builtin, ha.eval hx, ha.eval hy, Builtin.delete_, run_underlying hu, hg, hK.check, f1, r1]
    rw [hrun]
    have hlt : j < es.size := (Array.getElem?_eq_some_iff.1 f2).1
    have hel : (es.eraseIdxIfInBounds j).toList = es.toList.eraseIdx j := by
      simp [Array.eraseIdxIfInBounds, hlt]
    refine ⟨_, r2, h _ ⟨_, ck, upd_same _ _ _, ?_, ?_, ?_, ?_⟩ (But.upd _ _ _)⟩
    · rw [hel, del_old h4 f4, map_erase', h3, map_erase']
    · rw [del_old h4 f4, map_erase']; exact h4.sublist (List.eraseIdx_sublist _ _)
    · rw [hel, map_erase']; exact h5.sublist (List.eraseIdx_sublist _ _)
    · intro e he; rw [hel] at he; exact h6 e ((List.eraseIdx_sublist _ _).subset he)
end
end
end Go.Gw
