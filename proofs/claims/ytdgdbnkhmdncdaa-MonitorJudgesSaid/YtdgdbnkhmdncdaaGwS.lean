/- Parts of the heap that stand apart: a list of assertions, each on a heap of its own. -/
import Derived.Test.YtdgdbnkhmdncdaaGwM
set_option linter.unusedSectionVars false
set_option linter.unusedSimpArgs false
set_option linter.unusedVariables false
namespace Go.Gw
variable [Env]

abbrev Asr := Heap → Prop
def Disj (σ τ : Heap) : Prop := ∀ b, σ b = none ∨ τ b = none
theorem Disj.symm {σ τ : Heap} (h : Disj σ τ) : Disj τ σ := fun b => (h b).symm
/-- All of these, each on its own part. -/
def Stars (as : List Asr) (σ : Heap) : Prop := ∃ hs : Nat → Heap, (∀ i j, i ≠ j → Disj (hs i) (hs j)) ∧ ∀ i a, as[i]? = some a → Sub (hs i) σ ∧ a (hs i)
/-- What stays true where more is known. -/
def Mono (a : Asr) : Prop := ∀ σ τ, Sub σ τ → a σ → a τ

def pt (b : Nat) (o : Obj) : Asr := fun h => h b = some o
def mapA {κ : Type} (enc : κ → Value) (b : Nat) (al : List (κ × Value)) : Asr := fun h => MapIs h enc b al
def ownA (T : TypeId) (m : Nat) (p : Option Addr) (len cap : Nat) (ys : List Value) : Asr := fun h => Own h T m p len cap ys
def ro (ρ : Heap) : Asr := fun h => Sub ρ h
def emp : Asr := fun _ => True
def single (b : Nat) (o : Obj) : Heap := fun c => if c = b then some o else none
theorem single_same (b : Nat) (o : Obj) : single b o b = some o := by simp [single]
theorem single_sub {b : Nat} {o : Obj} {τ : Heap} (h : τ b = some o) : Sub (single b o) τ := fun c p hc => by
  unfold single at hc
  split at hc
  · rename_i he; rw [he, h]; exact hc
  · cases hc

theorem mono_pt (b : Nat) (o : Obj) : Mono (pt b o) := fun _ _ hs h => hs _ _ h
theorem mono_map {κ : Type} (enc : κ → Value) (b : Nat) (al : List (κ × Value)) : Mono (mapA enc b al) := fun σ τ hs h => by
  have h' : MapIs σ enc b al := h
  obtain ⟨o, ho⟩ := h'.there
  exact h'.sub ((hs _ _ ho).trans ho.symm)
theorem mono_own (T : TypeId) (m : Nat) (p : Option Addr) (len cap : Nat) (ys : List Value) : Mono (ownA T m p len cap ys) := fun σ τ hs h => by
  have h' : Own σ T m p len cap ys := h
  refine Own.sub h' fun a ha => ?_
  obtain ⟨_, _, h3⟩ := h'
  subst ha
  obtain ⟨_, cs, hb, _⟩ := h3
  rw [hb]; exact hs _ _ hb
theorem mono_ro (ρ : Heap) : Mono (ro ρ) := fun _ _ hs h => Sub.trans h hs
theorem mono_emp : Mono emp := fun _ _ _ _ => trivial

namespace Stars
variable {σ τ : Heap} {a a' : Asr} {as bs : List Asr}
theorem mono (as : List Asr) : Mono (Stars as) := fun _ _ hs h => by
  obtain ⟨hp, hd, h⟩ := h
  exact ⟨hp, hd, fun i a hi => ⟨(h i a hi).1.trans hs, (h i a hi).2⟩⟩
theorem sub (h : Stars as σ) (hs : Sub σ τ) : Stars as τ := Stars.mono as σ τ hs h
theorem get (h : Stars as σ) (i : Nat) (hi : as[i]? = some a) (hm : Mono a) : a σ := by
  obtain ⟨hp, hd, h⟩ := h
  exact hm _ _ (h i a hi).1 (h i a hi).2
theorem pt (h : Stars as σ) (i : Nat) {b : Nat} {o : Obj} (hi : as[i]? = some (Gw.pt b o)) : σ b = some o := h.get i hi (mono_pt b o)
theorem map (h : Stars as σ) (i : Nat) {κ : Type} {enc : κ → Value} {b : Nat} {al : List (κ × Value)} (hi : as[i]? = some (mapA enc b al)) : MapIs σ enc b al := h.get i hi (mono_map enc b al)
theorem own (h : Stars as σ) (i : Nat) {T : TypeId} {m : Nat} {p : Option Addr} {len cap : Nat} {ys : List Value} (hi : as[i]? = some (ownA T m p len cap ys)) : Own σ T m p len cap ys := h.get i hi (mono_own T m p len cap ys)
theorem ro (h : Stars as σ) (i : Nat) {ρ : Heap} (hi : as[i]? = some (Gw.ro ρ)) : Sub ρ σ := h.get i hi (mono_ro ρ)

/-- Another order. -/
theorem via (h : Stars as σ) (f : Nat → Nat) (hf : ∀ i j, i < bs.length → j < bs.length → f i = f j → i = j) (hb : ∀ i, i < bs.length → as[f i]? = bs[i]?) : Stars bs σ := by
  obtain ⟨hp, hd, h⟩ := h
  refine ⟨fun i => if i < bs.length then hp (f i) else fun _ => none, fun i j hij => ?_, fun i b hi => ?_⟩
  · by_cases h1 : i < bs.length <;> by_cases h2 : j < bs.length <;> simp only [h1, h2, if_true, if_false]
    · exact hd _ _ fun he => hij (hf i j h1 h2 he)
    · exact fun _ => .inr rfl
    · exact fun _ => .inl rfl
    · exact fun _ => .inl rfl
  · have hlt : i < bs.length := (List.getElem?_eq_some_iff.1 hi).1
    simp only [hlt, if_true]
    exact h _ _ ((hb i hlt).trans hi)
/-- One of them ahead of the others. -/
theorem top (i : Nat) (h : Stars as σ) (hi : as[i]? = some a) : Stars (a :: as.eraseIdx i) σ := by
  have hlt : i < as.length := (List.getElem?_eq_some_iff.1 hi).1
  refine h.via (fun j => if j = 0 then i else if j ≤ i then j - 1 else j) ?_ ?_
  · intro p q _ _ he
    by_cases h1 : p = 0 <;> by_cases h2 : q = 0 <;> by_cases h3 : p ≤ i <;> by_cases h4 : q ≤ i <;> simp [h1, h2, h3, h4] at he <;> omega
  · intro j hj
    by_cases h1 : j = 0
    · subst h1; simp [hi]
    · obtain ⟨k, rfl⟩ := Nat.exists_eq_succ_of_ne_zero h1
      simp only [List.getElem?_cons_succ, List.getElem?_eraseIdx]
      by_cases h3 : k + 1 ≤ i
      · simp [h3, show k < i by omega]
      · simp [h3, show ¬ k < i by omega]
theorem drop (h : Stars (a :: as) σ) : Stars as σ := h.via (fun j => j + 1) (fun i j _ _ he => by omega) fun i _ => rfl
/-- The first one behind the next j others. -/
theorem back (j : Nat) (h : Stars (a :: as) σ) (hj : j ≤ as.length) : Stars (as.take j ++ a :: as.drop j) σ := by
  refine h.via (fun i => if i < j then i + 1 else if i = j then 0 else i) ?_ ?_
  · intro p q _ _ he
    by_cases h1 : p < j <;> by_cases h2 : q < j <;> by_cases h3 : p = j <;> by_cases h4 : q = j <;> simp [h1, h2, h3, h4] at he <;> omega
  · intro i hi
    have hl : (as.take j).length = j := by simp; omega
    by_cases h1 : i < j
    · simp only [h1, if_true, List.getElem?_cons_succ]
      rw [List.getElem?_append_left (by omega), List.getElem?_take, if_pos h1]
    · rw [List.getElem?_append_right (by omega), hl]
      by_cases h2 : i = j
      · subst h2; simp
      · simp only [h1, h2, if_false]
        obtain ⟨k, hk⟩ : ∃ k, i - j = k + 1 := ⟨i - j - 1, by omega⟩
        rw [hk]
        have : i = (j + k) + 1 := by omega
        rw [this]
        simp
theorem imp (h : Stars (a :: as) σ) (ha : ∀ ρ, a ρ → a' ρ) : Stars (a' :: as) σ := by
  obtain ⟨hp, hd, h⟩ := h
  refine ⟨hp, hd, fun i b hi => ?_⟩
  cases i with
  | zero => simp at hi; subst hi; exact ⟨(h 0 a rfl).1, ha _ (h 0 a rfl).2⟩
  | succ i => exact h (i + 1) b hi
theorem ex {X : Type} {A : X → Asr} (h : Stars ((fun ρ => ∃ x, A x ρ) :: as) σ) : ∃ x, Stars (A x :: as) σ := by
  obtain ⟨hp, hd, h⟩ := h
  obtain ⟨x, hx⟩ := (h 0 _ rfl).2
  refine ⟨x, hp, hd, fun i b hi => ?_⟩
  cases i with
  | zero => simp at hi; subst hi; exact ⟨(h 0 _ rfl).1, hx⟩
  | succ i => exact h (i + 1) b hi
theorem ofex {X : Type} {A : X → Asr} (x : X) (h : Stars (A x :: as) σ) : Stars ((fun ρ => ∃ x, A x ρ) :: as) σ := h.imp fun _ hx => ⟨x, hx⟩

/-- The first one's block is another one now. -/
theorem upd {b : Nat} {o : Obj} (h : Stars (a :: as) σ) (hb : (∀ ρ, a ρ → ∃ p, ρ b = some p) ∨ σ b = none) (ht : But σ b τ) (ho : τ b = some o) (ha : a' (single b o)) : Stars (a' :: as) τ := by
  obtain ⟨hp, hd, h⟩ := h
  have hfree : ∀ i x, as[i]? = some x → hp (i + 1) b = none := by
    intro i x hx
    rcases hb with hb | hb
    · obtain ⟨p, hq⟩ := hb _ (h 0 a rfl).2
      rcases hd 0 (i + 1) (by omega) b with h1 | h1
      · rw [hq] at h1; cases h1
      · exact h1
    · cases hc : hp (i + 1) b with
      | none => rfl
      | some p => rw [(h (i + 1) x hx).1 b p hc] at hb; cases hb
  refine ⟨fun i => match i with | 0 => single b o | i + 1 => if i < as.length then hp (i + 1) else fun _ => none, ?_, ?_⟩
  · have key : ∀ j, Disj (single b o) (if j < as.length then hp (j + 1) else fun _ => none) := by
      intro j c
      by_cases hj : j < as.length
      · simp only [hj, if_true]
        by_cases hc : c = b
        · subst hc; exact .inr (hfree j _ (List.getElem?_eq_getElem hj))
        · exact .inl (by simp [single, hc])
      · simp only [hj, if_false]; exact .inr trivial
    intro i j hij
    cases i with
    | zero => cases j with
      | zero => exact absurd rfl hij
      | succ j => exact key j
    | succ i => cases j with
      | zero => exact (key i).symm
      | succ j =>
        show Disj (if i < as.length then hp (i + 1) else fun _ => none) (if j < as.length then hp (j + 1) else fun _ => none)
        by_cases h1 : i < as.length
        · by_cases h2 : j < as.length
          · simp only [h1, h2, if_true]; exact hd _ _ (by omega)
          · simp only [h2, if_false]; exact fun _ => .inr rfl
        · simp only [h1, if_false]; exact fun _ => .inl rfl
  · intro i x hi
    cases i with
    | zero => simp at hi; subst hi; exact ⟨single_sub ho, ha⟩
    | succ i =>
      simp at hi
      have hlt : i < as.length := (List.getElem?_eq_some_iff.1 hi).1
      simp only [hlt, if_true]
      have := h (i + 1) x hi
      exact ⟨ht.own this.1 (hfree i x hi), this.2⟩
theorem fresh {b : Nat} {o : Obj} (h : Stars as σ) (hn : New σ b o τ) : Stars (Gw.pt b o :: as) τ := by
  have h0 : Stars (emp :: as) σ := by
    obtain ⟨hp, hd, h⟩ := h
    refine ⟨fun i => match i with | 0 => fun _ => none | i + 1 => hp i, ?_, ?_⟩
    · intro i j hij
      cases i with
      | zero => exact fun _ => .inl rfl
      | succ i => cases j with
        | zero => exact fun _ => .inr rfl
        | succ j => exact hd _ _ (by omega)
    · intro i a hi
      cases i with
      | zero => simp at hi; subst hi; exact ⟨fun _ _ h => (by cases h), trivial⟩
      | succ i => exact h i a hi
  exact upd h0 (.inr hn.none) (Sub.but hn.sub b) hn.at_ (single_same b o)
theorem add (h : Stars as σ) : Stars (emp :: as) σ := by
  obtain ⟨hp, hd, h⟩ := h
  refine ⟨fun i => match i with | 0 => fun _ => none | i + 1 => hp i, ?_, ?_⟩
  · intro i j hij
    cases i with
    | zero => exact fun _ => .inl rfl
    | succ i => cases j with
      | zero => exact fun _ => .inr rfl
      | succ j => exact hd _ _ (by omega)
  · intro i a hi
    cases i with
    | zero => simp at hi; subst hi; exact ⟨fun _ _ h => (by cases h), trivial⟩
    | succ i => exact h i a hi
theorem ptU {b : Nat} {o o' : Obj} (h : Stars (Gw.pt b o :: as) σ) (ht : But σ b τ) (ho : τ b = some o') : Stars (Gw.pt b o' :: as) τ := h.upd (.inl fun _ hx => ⟨o, hx⟩) ht ho (single_same b o')
theorem mapU {κ : Type} {enc : κ → Value} {b : Nat} {al bl : List (κ × Value)} (h : Stars (mapA enc b al :: as) σ) (ht : But σ b τ) (hm : MapIs τ enc b bl) : Stars (mapA enc b bl :: as) τ := by
  obtain ⟨o, ho⟩ := hm.there
  exact h.upd (.inl fun _ hx => (MapIs.there hx)) ht ho (hm.sub ((single_same b o).trans ho.symm))
theorem mapNew {κ : Type} {enc : κ → Value} {b : Nat} (h : Stars as σ) (hn : New σ b (.map #[] 0) τ) : Stars (mapA enc b [] :: as) τ := (h.fresh hn).imp fun _ hx => MapIs.empty hx
theorem ownU {T : TypeId} {m : Nat} {p : Option Addr} {len cap : Nat} {ys : List Value} {b o' len' cap' : Nat} {zs : List Value} (h : Stars (ownA T m p len cap ys :: as) σ) (hb : σ b = none ∨ ∃ a, p = some a ∧ a.block = b) (ht : But σ b τ)
    (hm : Own τ T m (some ⟨b, o', none⟩) len' cap' zs) : Stars (ownA T m (some ⟨b, o', none⟩) len' cap' zs :: as) τ := by
  have hm' := hm
  obtain ⟨_, _, _, cs, hcs, _⟩ := hm'
  refine h.upd ?_ ht hcs (hm.sub fun a ha => by cases ha; exact (single_same b _).trans hcs.symm)
  rcases hb with hb | ⟨a, rfl, rfl⟩
  · exact .inr hb
  · exact .inl fun ρ hx => by obtain ⟨_, _, _, cs', hc', _⟩ := (show Own ρ T m (some a) len cap ys from hx); exact ⟨_, hc'⟩
theorem ownNil {T : TypeId} {m : Nat} (h : Stars as σ) : Stars (ownA T m none 0 0 [] :: as) σ := h.add.imp fun ρ _ => Own.nil ρ T m

/-- A list of them as one. -/
theorem flat (h : Stars (Stars bs :: as) σ) : Stars (bs ++ as) σ := by
  obtain ⟨hp, hd, h⟩ := h
  obtain ⟨h0, gs, gd, g⟩ := h 0 _ rfl
  have gsub : ∀ i, i < bs.length → Sub (gs i) (hp 0) := fun i hi => (g i _ (List.getElem?_eq_getElem hi)).1
  have cross : ∀ i j, i < bs.length → j ≠ 0 → Disj (gs i) (hp j) := fun i j hi hj c => by
    rcases hd 0 j (fun h => hj h.symm) c with h1 | h1
    · cases hc : gs i c with
      | none => exact .inl rfl
      | some p => rw [gsub i hi c p hc] at h1; cases h1
    · exact .inr h1
  refine ⟨fun i => if i < bs.length then gs i else hp (i - bs.length + 1), ?_, ?_⟩
  · intro i j hij
    by_cases h1 : i < bs.length <;> by_cases h2 : j < bs.length <;> simp only [h1, h2, if_true, if_false]
    · exact gd _ _ hij
    · exact cross _ _ h1 (by omega)
    · exact (cross _ _ h2 (by omega)).symm
    · exact hd _ _ (by omega)
  · intro i a hi
    by_cases h1 : i < bs.length
    · rw [List.getElem?_append_left h1] at hi
      simp only [h1, if_true]
      exact ⟨(g i a hi).1.trans h0, (g i a hi).2⟩
    · rw [List.getElem?_append_right (by omega)] at hi
      simp only [h1, if_false]
      exact h (i - bs.length + 1) a hi
/-- The union of the first n. -/
def union (hs : Nat → Heap) : Nat → Heap
  | 0 => fun _ => none
  | n + 1 => fun c => (union hs n c).or (hs n c)
theorem union_sub {hs : Nat → Heap} (hd : ∀ i j, i ≠ j → Disj (hs i) (hs j)) : ∀ (n i : Nat), i < n → Sub (hs i) (union hs n)
  | n + 1, i, hi => fun c o hc => by
    show (union hs n c).or (hs n c) = some o
    by_cases h : i = n
    · subst h
      have : union hs i c = none := by
        have key : ∀ m, m ≤ i → union hs m c = none := by
          intro m
          induction m with
          | zero => intro _; rfl
          | succ m ih =>
            intro hm
            show (union hs m c).or (hs m c) = none
            rw [ih (by omega)]
            rcases hd m i (by omega) c with h1 | h1
            · rw [h1]; rfl
            · rw [hc] at h1; cases h1
        exact key i (Nat.le_refl i)
      rw [this, hc]; rfl
    · rw [union_sub hd n i (by omega) c o hc]; rfl
theorem union_of {hs : Nat → Heap} {c : Nat} {o : Obj} : ∀ (n : Nat), union hs n c = some o → ∃ i, i < n ∧ hs i c = some o
  | n + 1, h => by
    have h' : (union hs n c).or (hs n c) = some o := h
    cases hu : union hs n c with
    | none => rw [hu] at h'; exact ⟨n, by omega, h'⟩
    | some p => rw [hu] at h'; simp at h'; subst h'; obtain ⟨i, hi, hc⟩ := union_of n hu; exact ⟨i, by omega, hc⟩
theorem fold (n : Nat) (h : Stars as σ) : Stars (Stars (as.take n) :: as.drop n) σ := by
  obtain ⟨hp, hd, h⟩ := h
  have hm : ∀ i, i < min n as.length → Sub (hp i) σ := fun i hi => (h i _ (List.getElem?_eq_getElem (by omega))).1
  refine ⟨fun i => match i with | 0 => union hp (min n as.length) | i + 1 => if n + i < as.length then hp (n + i) else fun _ => none, ?_, ?_⟩
  · have key : ∀ j, Disj (union hp (min n as.length)) (if n + j < as.length then hp (n + j) else fun _ => none) := by
      intro j c
      by_cases hj : n + j < as.length
      · simp only [hj, if_true]
        cases hu : union hp (min n as.length) c with
        | none => exact .inl rfl
        | some p =>
          obtain ⟨i, hi, hc⟩ := union_of _ hu
          rcases hd i (n + j) (by omega) c with h1 | h1
          · rw [hc] at h1; cases h1
          · exact .inr h1
      · simp only [hj, if_false]; exact .inr trivial
    intro i j hij
    cases i with
    | zero => cases j with
      | zero => exact absurd rfl hij
      | succ j => exact key j
    | succ i => cases j with
      | zero => exact (key i).symm
      | succ j =>
        show Disj (if n + i < as.length then hp (n + i) else fun _ => none) (if n + j < as.length then hp (n + j) else fun _ => none)
        by_cases h1 : n + i < as.length
        · by_cases h2 : n + j < as.length
          · simp only [h1, h2, if_true]; exact hd _ _ (by omega)
          · simp only [h2, if_false]; exact fun _ => .inr rfl
        · simp only [h1, if_false]; exact fun _ => .inl rfl
  · intro i a hi
    cases i with
    | zero =>
      simp at hi; subst hi
      refine ⟨fun c o hc => ?_, hp, hd, fun j b hj => ?_⟩
      · obtain ⟨i, hi, hc'⟩ := union_of _ hc
        exact hm i hi c o hc'
      · have hj' := (List.getElem?_eq_some_iff.1 hj).1
        simp at hj'
        rw [List.getElem?_take, if_pos (by omega)] at hj
        exact ⟨union_sub hd _ _ (by omega), (h j b hj).2⟩
    | succ i =>
      simp at hi
      have hlt : n + i < as.length := (List.getElem?_eq_some_iff.1 hi).1
      simp only [hlt, if_true]
      exact h _ _ hi
/-- One of a list within the first. -/
theorem open_ {i : Nat} (h : Stars (Stars bs :: as) σ) (hi : bs[i]? = some a) : Stars (a :: Stars (bs.set i emp) :: as) σ := by
  have hlt : i < bs.length := (List.getElem?_eq_some_iff.1 hi).1
  have h1 := (h.flat).add
  have h2 : Stars (a :: (bs.set i emp ++ as)) σ := by
    refine h1.via (fun j => if j = 0 then i + 1 else if j = i + 1 then 0 else j) ?_ ?_
    · intro p q _ _ he
      by_cases e1 : p = 0 <;> by_cases e2 : q = 0 <;> by_cases e3 : p = i + 1 <;> by_cases e4 : q = i + 1 <;> simp [e1, e2, e3, e4] at he <;> omega
    · intro j hj
      by_cases e1 : j = 0
      · subst e1; simp [List.getElem?_append_left hlt, hi]
      · obtain ⟨k, rfl⟩ := Nat.exists_eq_succ_of_ne_zero e1
        by_cases e2 : k = i
        · subst e2; simp [List.getElem?_append_left, hlt]
        · simp [e2]
          by_cases e3 : k < bs.length
          · rw [List.getElem?_append_left e3, List.getElem?_append_left (by simpa using e3), List.getElem?_set, if_neg (by omega)]
          · rw [List.getElem?_append_right (by omega), List.getElem?_append_right (by simp; omega)]; simp
  have h3 := (h2.back (bs.length + as.length) (by simp))
  rw [List.take_of_length_le (by simp), List.drop_of_length_le (by simp)] at h3
  have h4 := h3.fold bs.length
  simp only [List.append_assoc] at h4
  rw [List.take_append_of_le_length (by simp), List.drop_append_of_le_length (by simp), List.take_of_length_le (by simp), List.drop_of_length_le (by simp)] at h4
  have h5 := h4.top (as.length + 1) (a := a) (by simp)
  rw [List.eraseIdx_cons_succ] at h5
  simpa [List.eraseIdx_append_of_length_le] using h5
theorem close_ {i : Nat} (h : Stars (a :: Stars (bs.set i emp) :: as) σ) (hi : i < bs.length) : Stars (Stars (bs.set i a) :: as) σ := by
  have h1 : Stars (Stars (bs.set i emp) :: a :: as) σ := h.back 1 (by simp)
  have h2 := h1.flat
  have h3 : Stars (bs.set i a ++ as) σ := by
    refine h2.via (fun j => if j = i then bs.length else if j < bs.length then j else j + 1) ?_ ?_
    · intro p q _ _ he
      by_cases e1 : p = i <;> by_cases e2 : q = i <;> by_cases e3 : p < bs.length <;> by_cases e4 : q < bs.length <;> simp [e1, e2, e3, e4] at he <;> omega
    · intro j hj
      by_cases e1 : j = i
      · subst e1; rw [if_pos rfl, List.getElem?_append_right (by simp), List.getElem?_append_left (by simpa using hi)]; simp [hi]
      · rw [if_neg e1]
        by_cases e3 : j < bs.length
        · rw [if_pos e3, List.getElem?_append_left (by simpa using e3), List.getElem?_append_left (by simpa using e3)]
          rw [List.getElem?_set_ne (by omega), List.getElem?_set_ne (by omega)]
        · rw [if_neg e3, List.getElem?_append_right (by simp; omega), List.getElem?_append_right (by simp; omega)]
          simp only [List.length_set]
          rw [show j + 1 - bs.length = (j - bs.length) + 1 by omega]; simp
  have h4 := h3.fold bs.length
  rw [List.take_append_of_le_length (by simp), List.drop_append_of_le_length (by simp), List.take_of_length_le (by simp), List.drop_of_length_le (by simp)] at h4
  simpa using h4
/-- One more at the end of a list within the first. -/
theorem snoc (h : Stars (a :: Stars bs :: as) σ) : Stars (Stars (bs ++ [a]) :: as) σ := by
  have h1 : Stars (Stars bs :: a :: as) σ := h.back 1 (by simp)
  have h4 := h1.flat.fold (bs.length + 1)
  rw [show bs ++ a :: as = (bs ++ [a]) ++ as by simp, List.take_append_of_le_length (by simp), List.drop_append_of_le_length (by simp), List.take_of_length_le (by simp), List.drop_of_length_le (by simp)] at h4
  simpa using h4
theorem ro0 (σ : Heap) : Stars [Gw.ro σ] σ := ⟨fun i => if i = 0 then σ else fun _ => none, fun i j hij => by
    by_cases h1 : i = 0
    · subst h1; exact fun _ => .inr (by show (if j = 0 then σ else fun _ => none) _ = none; rw [if_neg fun h => hij h.symm])
    · exact fun _ => .inl (by simp [h1]), fun i a hi => by
    cases i with
    | zero => simp at hi; subst hi; exact ⟨Sub.rfl' σ, Sub.rfl' σ⟩
    | succ i => simp at hi⟩
theorem nils (h : Stars as σ) : Stars (Stars [] :: as) σ := h.add.imp fun _ _ => ⟨fun _ _ => none, fun _ _ _ _ => .inl rfl, fun i a hi => by cases hi⟩
/-- What is only read takes a block more. -/
theorem roU {ρ : Heap} {b : Nat} {o : Obj} (h : Stars (Gw.pt b o :: Gw.ro ρ :: as) σ) : Stars (Gw.ro (Gw.upd ρ b o) :: as) σ := by
  have h1 := h.fold 2
  refine h1.imp fun h' hx => ?_
  have hb : h' b = some o := hx.pt 0 rfl
  have hr : Sub ρ h' := hx.ro 1 rfl
  intro c p hc
  by_cases e : c = b
  · subst e; rw [upd_same] at hc; rw [hb, hc]
  · rw [show Gw.upd ρ b o c = ρ c by simp [Gw.upd, e]] at hc; exact hr c p hc
theorem roNew {ρ : Heap} {b : Nat} {o : Obj} (h : Stars (Gw.pt b o :: Gw.ro ρ :: as) σ) : ∃ ρ', Sub ρ ρ' ∧ ρ' b = some o ∧ Stars (Gw.ro ρ' :: as) σ := by
  refine ⟨Gw.upd ρ b o, fun c p hc => ?_, upd_same _ _ _, h.roU⟩
  by_cases e : c = b
  · subst e
    obtain ⟨hp, hd, h⟩ := h
    have h0 : hp 0 c = some o := (h 0 _ rfl).2
    have h1 : hp 1 c = some p := (h 1 _ rfl).2 c p hc
    rcases hd 0 1 (by omega) c with h2 | h2
    · rw [h0] at h2; cases h2
    · rw [h1] at h2; cases h2
  · rw [show Gw.upd ρ b o c = ρ c by simp [Gw.upd, e]]; exact hc
end Stars
end Go.Gw
