/- An entry of a map that is changed in two steps: m[k] = f(m[k]). -/
import Derived.Test.YtdgdbnkhmdncdaaGwS
set_option linter.unusedSectionVars false
set_option linter.unusedSimpArgs false
set_option linter.unusedVariables false
namespace Go.Gw
variable [Env]
section
variable {κ : Type} [DecidableEq κ] {enc : κ → Value} {P : Program} {n : Nat} {ty : TypeId} {l : Slots} {σ : Heap} {K : Value → Heap → Prop} {al : List (κ × Value)} {b : Nat} {k : κ} {t kt et : TypeId} {x y : Operand}

/-- A map of which the entry of a key is known by its stamp. -/
def MapE {κ : Type} (σ : Heap) (enc : κ → Value) (b : Nat) (al : List (κ × Value)) (k : κ) (s : Nat) : Prop :=
  ∃ (es : Array MapEntry) (clock j : Nat) (e : MapEntry), σ b = some (.map es clock) ∧ es.toList.map (fun e => (e.key, e.val)) = al.map (fun p => (enc p.1, p.2)) ∧ (al.map (·.1)).Nodup ∧ (es.toList.map (·.born)).Nodup ∧ (∀ e ∈ es.toList, e.born < clock) ∧
    es[j]? = some e ∧ e.key = enc k ∧ al[j]? = some (k, e.val) ∧ e.born = s
theorem MapE.sub {σ τ : Heap} {s : Nat} (h : MapE σ enc b al k s) (hb : τ b = σ b) : MapE τ enc b al k s := by
  obtain ⟨es, ck, j, e, h1, h⟩ := h
  exact ⟨es, ck, j, e, hb.trans h1, h⟩
theorem MapE.there {s : Nat} (h : MapE σ enc b al k s) : ∃ o, σ b = some o := by obtain ⟨es, ck, j, e, h1, h⟩ := h; exact ⟨_, h1⟩
theorem MapE.is {s : Nat} (h : MapE σ enc b al k s) : MapIs σ enc b al := by
  obtain ⟨es, ck, j, e, h1, h2, h3, h4, h5, _⟩ := h
  exact ⟨es, ck, h1, h2, h3, h4, h5⟩
theorem put_put (al : List (κ × Value)) (k : κ) (u v : Value) : put (put al k u) k v = put al k v := by
  induction al with
  | nil => simp [put]
  | cons a r ih =>
    obtain ⟨q, w⟩ := a
    by_cases h : q = k
    · subst h; simp [put]
    · simp [put, h, ih]
theorem put_same {al : List (κ × Value)} {j : Nat} {u : Value} (hd : (al.map (·.1)).Nodup) (h : al[j]? = some (k, u)) : put al k u = al := by
  rw [put_old hd h]
  apply List.ext_getElem?
  intro i
  rw [List.getElem?_set]
  by_cases hij : j = i
  · subst hij
    have hlt : j < al.length := (List.getElem?_eq_some_iff.1 h).1
    simp only [if_true, hlt]; exact h.symm
  · simp [hij]
theorem mapEntry_run (hu : P.underlying t = some (.map kt et)) (hK : KeyT P kt enc) {z : Value} (hz : zeroV P et = some z) (hm : MapIs σ enc b al) (k : κ) {w : World} (hw : Sat w σ) :
    ∃ (s : Nat) (σ' : Heap) (w' : World), (Instr.mapEntry t (.map (some b)) (enc k)).run P w = .ok (.tuple #[(look al k).getD z, goInt s]) w' ∧ Sat w' σ' ∧ MapE σ' enc b (put al k ((look al k).getD z)) k s ∧ But σ b σ' := by
  obtain ⟨es, ck, h1, _, h2, h3, h4, h5, h6⟩ := hm.find hK k
  have hg := getObj_run (P := P) hw.heap h1
  rcases h2 with ⟨f1, f0, f2⟩ | ⟨j, e, f1, f2, f3, f4, f0⟩
  · obtain ⟨w', r1, r2⟩ := setObj_run (P := P) hw h1 (.map (es.push { key := enc k, val := z, born := ck }) (ck + 1))
    refine ⟨ck, _, w', ?_, r2, ?_, But.upd _ _ _⟩
    · have := zeroV_run hz w
      simp [Instr.mapEntry, run_underlying hu, hg, hK.check, f1, r1, this, f0]
    · rw [f0]
      obtain ⟨es', ck', p1, p2, p3, p4, p5⟩ := MapIs.push (σ := σ) (b := b) h3 h4 h5 h6 f2 z
      rw [upd_same] at p1
      simp only [Option.some.injEq, Obj.map.injEq] at p1
      obtain ⟨rfl, rfl⟩ := p1
      have hlen : es.size = al.length := by have := congrArg List.length h3; simpa using this
      refine ⟨_, _, es.size, _, upd_same _ _ _, p2, p3, p4, p5, by simp; rfl, rfl, ?_, rfl⟩
      simp [put_new f2, hlen]
  · obtain ⟨w', r1, r2⟩ := setObj_run (P := P) hw h1 (.map (es.modify j fun e => { e with key := enc k }) ck)
    refine ⟨e.born, _, w', ?_, r2, ?_, But.upd _ _ _⟩
    · have hj : es[j]?.map (·.key) = some (enc k) := by rw [f2, ← f3]; rfl
      simp [Instr.mapEntry, run_underlying hu, hg, hK.check, f1, f2, f3, keyThatStays_run hK, r1, f0]
    · rw [f0]
      have hp : put al k e.val = al := put_same h4 f4
      obtain ⟨es', ck', p1, p2, p3, p4, p5⟩ := MapIs.store (σ := σ) (b := b) h3 h4 h5 h6 f2 f4 e.val
      rw [upd_same] at p1
      simp only [Option.some.injEq, Obj.map.injEq] at p1
      obtain ⟨rfl, rfl⟩ := p1
      have hq : (es.modify j fun e => { e with key := enc k }) = es.modify j fun e' => { e' with key := enc k, val := e.val } := by
        apply Array.ext_getElem?
        intro i
        simp only [Array.getElem?_modify]
        by_cases hij : j = i
        · subst hij; simp [f2]
        · simp [hij]
      rw [hq]
      refine ⟨_, _, j, { key := enc k, val := e.val, born := e.born }, upd_same _ _ _, p2, p3, p4, p5, by rw [Array.getElem?_modify, if_pos rfl, f2]; rfl, rfl, ?_, rfl⟩
      rw [Option.getD_some, hp]; exact f4
theorem e_mapEntry {z : Value} (hu : P.underlying t = some (.map kt et)) (hK : KeyT P kt enc) (hz : zeroV P et = some z) (hx : ev l x = some (.map (some b))) (hy : ev l y = some (enc k)) (hm : MapIs σ enc b al)
    (h : ∀ (s : Nat) (τ : Heap), MapE τ enc b (put al k ((look al k).getD z)) k s → But σ b τ → K (.tuple #[(look al k).getD z, goInt s]) τ) : EOp P n (.mapEntry t x y) ty l σ K := .mk fun a w ha hw dst pos af g => by
  obtain ⟨s, σ', w', r1, r2, r3, r4⟩ := mapEntry_run hu hK hz hm k hw
  have hrun : (execOp a.eval ⟨dst, .mapEntry t x y, ty, pos, af, g⟩).run P w = .ok (.value (.tuple #[(look al k).getD z, goInt s])) w' := by
    simp [execOp, ha.eval hx, ha.eval hy, r1]
  rw [hrun]
  exact ⟨_, r2, h s _ r3 r4⟩
theorem e_entryStore {s : Nat} {v : Value} {u q : Operand} (hx : ev l x = some (.map (some b))) (hq : ev l q = some (goInt s)) (hv : ev l u = some v) (hm : MapE σ enc b al k s)
    (h : ∀ τ, MapIs τ enc b (put al k v) → But σ b τ → K undef τ) : EOp P n (.entryStore t x q u) ty l σ K := .mk fun a w ha hw dst pos af g => by
  obtain ⟨es, ck, j, e, h1, h3, h4, h5, h6, f2, f3, f4, f5⟩ := hm
  have hg := getObj_run (P := P) hw.heap h1
  have hfind : es.findIdx? (fun e => (e.born : Int) == (s : Int)) = some j := by
    rw [Array.findIdx?_eq_some_iff_getElem]
    have hlt : j < es.size := (Array.getElem?_eq_some_iff.1 f2).1
    have he : es[j] = e := (Array.getElem?_eq_some_iff.1 f2).2
    refine ⟨hlt, by rw [he, f5]; simp, fun i hi => ?_⟩
    have hp := List.pairwise_iff_getElem.1 h5 i j (by simp; omega) (by simp; omega) hi
    simp only [List.getElem_map, Array.getElem_toList] at hp
    rw [he, f5] at hp
    simp only [beq_iff_eq]
    omega
  have hmod : (es.modify j fun e => { e with val := v }) = es.modify j fun e => { e with key := enc k, val := v } := by
    apply Array.ext_getElem?
    intro i
    simp only [Array.getElem?_modify]
    by_cases hij : j = i
    · subst hij; simp [f2, f3]
    · simp [hij]
  obtain ⟨w', r1, r2⟩ := setObj_run (P := P) hw h1 (.map (es.modify j fun e => { e with val := v }) ck)
  have has : ∀ w, (asInt (goInt (s : Int))).run P w = .ok (s : Int) w := fun _ => rfl
  have hrun : (execOp a.eval ⟨dst, .entryStore t x q u, ty, pos, af, g⟩).run P w = .ok .skip w' := by
    simp [execOp, ha.eval hx, ha.eval hq, ha.eval hv, Instr.entryStore, hg, has, hfind, r1]
  rw [hrun]
  rw [hmod] at r2
  exact ⟨_, r2, h _ (MapIs.store (σ := σ) (b := b) h3 h4 h5 h6 f2 f4 v) (But.upd _ _ _)⟩

def mapEA {κ : Type} (enc : κ → Value) (b : Nat) (al : List (κ × Value)) (k : κ) (s : Nat) : Asr := fun h => MapE h enc b al k s
theorem Stars.mapEU {σ τ : Heap} {as : List Asr} {al bl : List (κ × Value)} {k : κ} {s : Nat} (h : Stars (mapA enc b al :: as) σ) (ht : But σ b τ) (hm : MapE τ enc b bl k s) : Stars (mapEA enc b bl k s :: as) τ := by
  obtain ⟨o, ho⟩ := hm.there
  exact h.upd (.inl fun _ hx => (MapIs.there hx)) ht ho (hm.sub ((single_same b o).trans ho.symm))
theorem Stars.mapUE {σ τ : Heap} {as : List Asr} {al bl : List (κ × Value)} {k : κ} {s : Nat} (h : Stars (mapEA enc b al k s :: as) σ) (ht : But σ b τ) (hm : MapIs τ enc b bl) : Stars (mapA enc b bl :: as) τ := by
  obtain ⟨o, ho⟩ := hm.there
  exact h.upd (.inl fun _ hx => (MapE.there hx)) ht ho (hm.sub ((single_same b o).trans ho.symm))
theorem mono_mapE {κ : Type} (enc : κ → Value) (b : Nat) (al : List (κ × Value)) (k : κ) (s : Nat) : Mono (mapEA enc b al k s) := fun σ τ hs h => by
  have h' : MapE σ enc b al k s := h
  obtain ⟨es, ck, j, e, h1, h⟩ := h'
  exact ⟨es, ck, j, e, hs _ _ h1, h⟩
theorem Stars.mapE {σ : Heap} {as : List Asr} {κ : Type} {enc : κ → Value} {b : Nat} {al : List (κ × Value)} {k : κ} {s : Nat} (h : Stars as σ) (i : Nat) (hi : as[i]? = some (mapEA enc b al k s)) : MapE σ enc b al k s := h.get i hi (mono_mapE enc b al k s)
end
end Go.Gw
