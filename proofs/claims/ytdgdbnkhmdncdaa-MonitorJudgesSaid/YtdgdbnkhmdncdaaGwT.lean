/- Maps whose values are slices. -/
import Derived.Test.YtdgdbnkhmdncdaaGwR
import Derived.LaidEqlPtr
set_option linter.unusedSectionVars false
set_option linter.unusedSimpArgs false
set_option linter.unusedVariables false
namespace Go.Gw
variable [Env]
open Go
theorem Stars.pure_ {p : Prop} {a : Asr} {as : List Asr} {σ : Heap} (h : Stars ((fun ρ => p ∧ a ρ) :: as) σ) : p ∧ Stars (a :: as) σ := by
  refine ⟨?_, h.imp fun _ hx => hx.2⟩
  obtain ⟨hs, _, ha⟩ := h
  exact (ha 0 _ rfl).2.1
theorem Stars.or_ {a b : Asr} {as : List Asr} {σ : Heap} (h : Stars ((fun ρ => a ρ ∨ b ρ) :: as) σ) : Stars (a :: as) σ ∨ Stars (b :: as) σ := by
  obtain ⟨hs, hd, ha⟩ := h
  rcases (ha 0 _ rfl).2 with h0 | h0
  · refine .inl ⟨hs, hd, fun i c hi => ?_⟩
    cases i with
    | zero => simp at hi; subst hi; exact ⟨(ha 0 _ rfl).1, h0⟩
    | succ i => exact ha (i + 1) c hi
  · refine .inr ⟨hs, hd, fun i c hi => ?_⟩
    cases i with
    | zero => simp at hi; subst hi; exact ⟨(ha 0 _ rfl).1, h0⟩
    | succ i => exact ha (i + 1) c hi
/-- What stands behind a piece of code, shown once, whatever the heap is there. -/
theorem St.joinh {P : Program} {f : FuncId} {n : Nat} {l : Slots} {σ : Heap} {k : List Item} {Φ : Value → Heap → Prop} (ks : List Nat) (J : Heap → Prop) {c : Item} (h : (∀ τ, J τ → St P f n (Gw.keep ks l) τ k Φ) → St P f n l σ (c :: k) Φ) (hk : ∀ τ, J τ → St P f n (Gw.keep ks l) τ k Φ) : St P f n l σ (c :: k) Φ := h hk
theorem Stars.self {a : Asr} {σ : Heap} (hm : Mono a) (h : a σ) : Stars [a] σ := (Stars.ro0 σ).imp fun ρ hx => hm σ ρ hx h
theorem q_peq {P : Program} {n : Nat} {l : Slots} {σ : Heap} {x y : Operand} {u : TypeId} {ty t te : TypeId} {m : Nat} {p q : Addr} {ca cb : Array Value} {ta tb : TypeId} (hp : P.underlying t = some (.pointer te)) (hte : szOf P te = some m) (hm : Nat.blt 0 m = true) (hx : ev l x = some (.pointer (some p))) (hy : ev l y = some (.pointer (some q)))
    (hca : σ p.block = some (.cells ca ta (0, 0))) (hcb : σ q.block = some (.cells cb tb (0, 0))) : QOp P n (.binOp .eql t x y u) ty l σ (.bool (decide (p = q))) := .mk fun a w ha hw _ _ _ _ => by
  obtain ⟨j, hj, hsz⟩ : ∃ d, P.info? te = some d ∧ d.size = m := by simpa [szOf, Option.map_eq_some_iff] using hte
  have h0 : j.size ≠ 0 := by rw [hsz]; have := Nat.blt_eq ▸ hm; omega
  have hg := eqGuard_ptr (P := P) .eql t x y (some p) (some q) w
  have hr : (Go.binOp .eql t (.pointer (some p)) (.pointer (some q))).run P w = .ok (.bool (decide (p = q))) w := by
    by_cases e : p = q
    · subst e; rw [run_eql_ptr_same (w := w) p hp hj]; simp
    · rw [run_eql_ptr_other (w := w) hp hj h0 e (hw _ _ hca) (hw _ _ hcb)]; simp [e]
  simp only [execOp, ha.eval hx, ha.eval hy]
  simp [hg, hr]
theorem q_quo {P : Program} {n : Nat} {l : Slots} {σ : Heap} {x y : Operand} {u t ty : TypeId} {k : IntKind} {a b c : Int} (hx : ev l x = some (.int k a)) (hy : ev l y = some (.int k b)) (hb : b ≠ 0) (hc : k.wrap (a.tdiv b) = c) : QOp P n (.binOp .quo t x y u) ty l σ (.int k c) := .mk fun a w ha _ _ _ _ _ => by
  simp [execOp, ha.eval hx, ha.eval hy, eqGuard_int, binOp, Op.intArith, Op.intDiv, hb, hc]
theorem Dr.down {P : Program} {f : FuncId} {n : Nat} {ops : Array Oper} {loud : List Nat} {σ₀ σ τ : Heap} {q : List (Nat × Kd)} {l : Slots} {k : List Item} {Φ : Value → Heap → Prop} (hs : Sub τ σ) (h : Dr P f n ops loud σ₀ q l τ k Φ) : Dr P f n ops loud σ₀ q l σ k Φ :=
  fun dn m hq hm hc a w hf hw => h dn m hq hm hc a w hf (hw.sub hs)
/-- What is not written any more may be told of a heap of its own. -/
theorem Stars.fix {a : Asr} {as : List Asr} {σ : Heap} (h : Stars (a :: as) σ) : ∃ ρ, a ρ ∧ Stars (Gw.ro ρ :: as) σ := by
  obtain ⟨hs, hd, ha⟩ := h
  refine ⟨hs 0, (ha 0 _ rfl).2, hs, hd, fun i c hi => ?_⟩
  cases i with
  | zero => simp at hi; subst hi; exact ⟨(ha 0 _ rfl).1, fun _ _ hx => hx⟩
  | succ i => exact ha (i + 1) c hi
section
variable {κ α : Type} [DecidableEq κ]
abbrev RowD (κ α : Type) := κ × Option Addr × Nat × List α
def rowV (d : RowD κ α) : κ × Value := (d.1, .slice d.2.1 d.2.2.2.length d.2.2.1)
def rowA (T : TypeId) (m : Nat) (f : α → List Value) (d : RowD κ α) : Asr := ownA T m d.2.1 d.2.2.2.length d.2.2.1 (d.2.2.2.flatMap f)
def rowsOf : List (RowD κ α) → κ → List α
  | [], _ => []
  | d :: D, k => if d.1 = k then d.2.2.2 else rowsOf D k
def rowsA (T : TypeId) (m : Nat) (enc : κ → Value) (f : α → List Value) (mb : Nat) (g : κ → List α) : Asr := fun h => ∃ D : List (RowD κ α), (∀ q, rowsOf D q = g q) ∧ Stars [mapA enc mb (D.map rowV), Stars (D.map (rowA T m f))] h
theorem mono_rows (T : TypeId) (m : Nat) (enc : κ → Value) (f : α → List Value) (mb : Nat) (g : κ → List α) : Mono (rowsA T m enc f mb g) := fun σ τ hs h => by
  obtain ⟨D, hD, h⟩ := h
  exact ⟨D, hD, h.sub hs⟩
theorem rowsA_congr {T : TypeId} {m : Nat} {enc : κ → Value} {f : α → List Value} {mb : Nat} {g g' : κ → List α} (e : ∀ q, g q = g' q) {as : List Asr} {σ : Heap} (h : Stars (rowsA T m enc f mb g :: as) σ) : Stars (rowsA T m enc f mb g' :: as) σ := by
  have : g = g' := funext e
  subst this; exact h

/-- A key stands at one place, or nowhere. -/
def RowAt (D : List (RowD κ α)) (k : κ) (j : Nat) (d : RowD κ α) : Prop := D[j]? = some d ∧ look (D.map rowV) k = some (.slice d.2.1 d.2.2.2.length d.2.2.1) ∧ rowsOf D k = d.2.2.2 ∧ ∀ p c xs, put (D.map rowV) k (.slice p (List.length xs) c) = (D.set j (k, p, c, xs)).map rowV ∧ ∀ q, rowsOf (D.set j (k, p, c, xs)) q = if q = k then xs else rowsOf D q
def RowNo (D : List (RowD κ α)) (k : κ) : Prop := look (D.map rowV) k = none ∧ rowsOf D k = [] ∧ ∀ p c xs, put (D.map rowV) k (.slice p (List.length xs) c) = (D ++ [(k, p, c, xs)]).map rowV ∧ ∀ q, rowsOf (D ++ [(k, p, c, xs)]) q = if q = k then xs else rowsOf D q
theorem row_case (k : κ) : ∀ D : List (RowD κ α), (∃ j d, RowAt D k j d) ∨ RowNo D k
  | [] => .inr ⟨rfl, rfl, fun p c xs => ⟨rfl, fun q => by
      show (if k = q then xs else rowsOf [] q) = _
      by_cases e : k = q
      · subst e; simp
      · rw [if_neg e, if_neg fun h => e h.symm]⟩⟩
  | d :: D => by
    obtain ⟨dk, dp, dc, dx⟩ := d
    by_cases e : dk = k
    · subst e
      refine .inl ⟨0, (dk, dp, dc, dx), rfl, by simp [look, rowV], by simp [rowsOf], fun p c xs => ⟨by simp [put, rowV], fun q => ?_⟩⟩
      show (if dk = q then xs else rowsOf D q) = if q = dk then xs else (if dk = q then dx else rowsOf D q)
      by_cases e : dk = q
      · subst e; simp
      · rw [if_neg e, if_neg fun h => e h.symm, if_neg e]
    · rcases row_case k D with ⟨j, d, h1, h2, h3, h4⟩ | ⟨h2, h3, h4⟩
      · refine .inl ⟨j + 1, d, by simpa using h1, by simpa [look, rowV, e] using h2, by simpa [rowsOf, e] using h3, fun p c xs => ⟨?_, fun q => ?_⟩⟩
        · have := (h4 p c xs).1
          simp only [List.map_cons, List.set_cons_succ]
          rw [← this]
          simp [put, rowV, e]
        · have := (h4 p c xs).2 q
          simp only [List.set_cons_succ, rowsOf, this]
          by_cases e1 : dk = q
          · subst e1; simp [e]
          · simp [e1]
      · refine .inr ⟨by simpa [look, rowV, e] using h2, by simpa [rowsOf, e] using h3, fun p c xs => ⟨?_, fun q => ?_⟩⟩
        · have := (h4 p c xs).1
          simp only [List.map_cons, List.cons_append]
          rw [← this]
          simp [put, rowV, e]
        · have := (h4 p c xs).2 q
          simp only [List.cons_append, rowsOf, this]
          by_cases e1 : dk = q
          · subst e1; simp [e]
          · simp [e1]
def rowsHole (T : TypeId) (m : Nat) (f : α → List Value) (al : List (κ × Value)) (g : κ → List α) (k : κ) : Asr := fun h => ∃ D : List (RowD κ α), (al = D.map rowV ∧ ∀ q, rowsOf D q = g q) ∧ ((∃ j d, RowAt D k j d ∧ Stars ((D.map (rowA T m f)).set j emp) h) ∨ (RowNo D k ∧ Stars (D.map (rowA T m f)) h))
variable {T : TypeId} {m : Nat} {enc : κ → Value} {f : α → List Value} {mb : Nat} {g : κ → List α} {rs as : List Asr} {σ : Heap}
theorem rows_open (h : Stars (rowsA T m enc f mb g :: rs) σ) (k : κ) : ∃ al p c, (look al k).getD (.slice none 0 0) = .slice p (g k).length c ∧ Stars (ownA T m p (g k).length c ((g k).flatMap f) :: mapA enc mb al :: rowsHole T m f al g k :: rs) σ := by
  obtain ⟨D, h⟩ := h.ex
  obtain ⟨hD, h⟩ := h.pure_
  replace h := h.flat
  rcases row_case k D with ⟨j, d, hr⟩ | hr
  · refine ⟨D.map rowV, d.2.1, d.2.2.1, by rw [hr.2.1, ← hD k, hr.2.2.1]; rfl, ?_⟩
    have h1 : Stars (Stars (D.map (rowA T m f)) :: mapA enc mb (D.map rowV) :: rs) σ := h.top 1 rfl
    have h2 := Stars.open_ (i := j) (a := rowA T m f d) h1 (by rw [List.getElem?_map, hr.1]; rfl)
    have h3 : Stars (Stars ((D.map (rowA T m f)).set j emp) :: rowA T m f d :: mapA enc mb (D.map rowV) :: rs) σ := h2.top 1 rfl
    have h4 : Stars (rowsHole T m f (D.map rowV) g k :: rowA T m f d :: mapA enc mb (D.map rowV) :: rs) σ := h3.imp fun ρ hx => ⟨D, ⟨rfl, hD⟩, .inl ⟨j, d, hr, hx⟩⟩
    have h5 : Stars (rowA T m f d :: mapA enc mb (D.map rowV) :: rowsHole T m f (D.map rowV) g k :: rs) σ := (h4.top 2 rfl).top 2 rfl
    rw [← hD k, hr.2.2.1]; exact h5
  · refine ⟨D.map rowV, none, 0, by rw [hr.1, ← hD k, hr.2.1]; rfl, ?_⟩
    have h3 : Stars (Stars (D.map (rowA T m f)) :: mapA enc mb (D.map rowV) :: rs) σ := h.top 1 rfl
    have h4 : Stars (rowsHole T m f (D.map rowV) g k :: mapA enc mb (D.map rowV) :: rs) σ := h3.imp fun ρ hx => ⟨D, ⟨rfl, hD⟩, .inr ⟨hr, hx⟩⟩
    have h5 : Stars (mapA enc mb (D.map rowV) :: rowsHole T m f (D.map rowV) g k :: rs) σ := h4.top 1 rfl
    rw [← hD k, hr.2.1]; exact h5.ownNil
theorem rows_close {al : List (κ × Value)} {k : κ} {p : Option Addr} {c : Nat} {xs : List α} (h : Stars (ownA T m p xs.length c (xs.flatMap f) :: mapA enc mb (put al k (.slice p xs.length c)) :: rowsHole T m f al g k :: rs) σ) : Stars (rowsA T m enc f mb (fun q => if q = k then xs else g q) :: rs) σ := by
  have h1 : Stars (rowsHole T m f al g k :: ownA T m p xs.length c (xs.flatMap f) :: mapA enc mb (put al k (.slice p xs.length c)) :: rs) σ := h.top 2 rfl
  obtain ⟨D, h1⟩ := h1.ex
  obtain ⟨⟨rfl, hD⟩, h1⟩ := h1.pure_
  have fin : ∀ D' : List (RowD κ α), put (D.map rowV) k (.slice p xs.length c) = D'.map rowV → (∀ q, rowsOf D' q = if q = k then xs else rowsOf D q) → Stars (mapA enc mb (D'.map rowV) :: Stars (D'.map (rowA T m f)) :: rs) σ → Stars (rowsA T m enc f mb (fun q => if q = k then xs else g q) :: rs) σ := by
    intro D' _ h2 h3
    have h4 := h3.fold 2
    exact h4.imp fun ρ hx => ⟨D', fun q => by rw [h2 q, hD q], hx⟩
  rcases h1.or_ with h1 | h1
  · obtain ⟨j, h1⟩ := h1.ex
    obtain ⟨d, h1⟩ := h1.ex
    obtain ⟨hr, h1⟩ := h1.pure_
    obtain ⟨e1, e2⟩ := hr.2.2.2 p c xs
    have hj := (List.getElem?_eq_some_iff.1 hr.1).1
    have h2 : Stars (rowA T m f (k, p, c, xs) :: Stars ((D.map (rowA T m f)).set j emp) :: mapA enc mb (put (D.map rowV) k (.slice p xs.length c)) :: rs) σ := h1.top 1 rfl
    have h3 := Stars.close_ h2 (by rw [List.length_map]; exact hj)
    refine fin _ e1 e2 ?_
    rw [← e1, List.map_set]
    exact h3.top 1 rfl
  · obtain ⟨hr, h1⟩ := h1.pure_
    obtain ⟨e1, e2⟩ := hr.2.2 p c xs
    have h2 : Stars (rowA T m f (k, p, c, xs) :: Stars (D.map (rowA T m f)) :: mapA enc mb (put (D.map rowV) k (.slice p xs.length c)) :: rs) σ := h1.top 1 rfl
    have h3 := h2.snoc
    refine fin _ e1 e2 ?_
    rw [← e1, List.map_append]
    exact h3.top 1 rfl
theorem rows_at {i : Nat} (h : Stars as σ) (hk : as[i]? = some (rowsA T m enc f mb g)) (k : κ) : ∃ al p c, MapIs σ enc mb al ∧ (look al k).getD (.slice none 0 0) = .slice p (g k).length c ∧ Rd σ m p (g k).length ((g k).flatMap f) := by
  obtain ⟨al, p, c, h1, h2⟩ := rows_open (h.top i hk) k
  exact ⟨al, p, c, h2.map 1 rfl, h1, (h2.own 0 rfl).rd⟩
theorem rows_rd {ρ : Heap} (h : rowsA T m enc f mb g ρ) (k : κ) : ∃ al p c, MapIs ρ enc mb al ∧ (look al k).getD (.slice none 0 0) = .slice p (g k).length c ∧ Rd ρ m p (g k).length ((g k).flatMap f) :=
  rows_at (i := 0) (Stars.self (mono_rows T m enc f mb g) h) rfl k
theorem rows_new {b : Nat} {τ : Heap} (h : Stars as σ) (hn : New σ b (.map #[] 0) τ) : Stars (rowsA T m enc f b (fun _ => []) :: as) τ := by
  have h1 := (h.mapNew (enc := enc) hn).nils
  have h2 : Stars (mapA enc b [] :: Stars [] :: as) τ := h1.top 1 rfl
  exact (h2.fold 2).imp fun ρ hx => ⟨[], fun _ => rfl, hx⟩
end
end Go.Gw
