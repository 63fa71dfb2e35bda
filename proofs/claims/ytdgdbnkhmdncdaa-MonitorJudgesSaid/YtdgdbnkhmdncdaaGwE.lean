/- append on a slice that owns its block. -/
import Derived.Test.YtdgdbnkhmdncdaaGwD
set_option linter.unusedSectionVars false
set_option linter.unusedSimpArgs false
set_option linter.unusedVariables false
namespace Go.Gw
variable [Env]
section
variable {P : Program} {n : Nat} {ty : TypeId} {l : Slots} {σ : Heap} {K : Value → Heap → Prop}

/-- A slice of 'len' elements of 'm' cells reads so. -/
def Rd (σ : Heap) (m : Nat) (p : Option Addr) (len : Nat) (ys : List Value) : Prop :=
  ys.length = len * m ∧ match p with
    | none => len = 0
    | some a => len = 0 ∨ (a.spot = none ∧ ∃ cs T fz, σ a.block = some (.cells cs T fz) ∧ ∀ i, i < len * m → cs[a.off + i]? = ys[i]?)
/-- A slice that owns the block in which it lies. -/
def Own (σ : Heap) (T : TypeId) (m : Nat) (p : Option Addr) (len cap : Nat) (ys : List Value) : Prop :=
  ys.length = len * m ∧ len ≤ cap ∧ match p with
    | none => cap = 0
    | some a => a.spot = none ∧ ∃ cs, σ a.block = some (.cells cs T (0, 0)) ∧ a.off + cap * m ≤ cs.size ∧ ∀ i, i < len * m → cs[a.off + i]? = ys[i]?

theorem Own.rd {T : TypeId} {m len cap : Nat} {p : Option Addr} {ys : List Value} (h : Own σ T m p len cap ys) : Rd σ m p len ys := by
  obtain ⟨h1, h2, h3⟩ := h
  refine ⟨h1, ?_⟩
  cases p with
  | none => simp at h3 ⊢; omega
  | some a => obtain ⟨hs, cs, hb, _, hc⟩ := h3; exact .inr ⟨hs, cs, T, _, hb, hc⟩
theorem Own.nil (σ : Heap) (T : TypeId) (m : Nat) : Own σ T m none 0 0 [] := ⟨by simp, by simp, rfl⟩
/-- The block of a slice, of which more is said by another heap. -/
theorem Own.sub {T : TypeId} {m len cap : Nat} {p : Option Addr} {ys : List Value} {τ : Heap} (h : Own σ T m p len cap ys) (hs : ∀ a, p = some a → τ a.block = σ a.block) : Own τ T m p len cap ys := by
  obtain ⟨h1, h2, h3⟩ := h
  refine ⟨h1, h2, ?_⟩
  cases p with
  | none => exact h3
  | some a => obtain ⟨hq, cs, hb, hr⟩ := h3; exact ⟨hq, cs, (hs a rfl).trans hb, hr⟩
theorem Rd.sub {m len : Nat} {p : Option Addr} {ys : List Value} {τ : Heap} (h : Rd σ m p len ys) (hs : ∀ a o, p = some a → σ a.block = some o → τ a.block = some o) : Rd τ m p len ys := by
  obtain ⟨h1, h3⟩ := h
  refine ⟨h1, ?_⟩
  cases p with
  | none => exact h3
  | some a =>
    rcases h3 with h0 | ⟨hq, cs, T, fz, hb, hr⟩
    · exact .inl h0
    · exact .inr ⟨hq, cs, T, fz, hs a _ rfl hb, hr⟩

theorem firstCells_run {w : World} (hw : HSat w σ) {m len cap : Nat} {p : Option Addr} {ys : List Value} (h : Rd σ m p len ys) : (Builtin.firstCells m len (.slice p len cap)).run P w = .ok ys.toArray w := by
  obtain ⟨h1, h2⟩ := h
  cases p with
  | none =>
    simp at h2; subst h2
    have : ys = [] := List.length_eq_zero_iff.1 (by simpa using h1)
    subst this; rfl
  | some a =>
    rcases h2 with h0 | ⟨hs, cs, T, fz, hb, hc⟩
    · subst h0
      have : ys = [] := List.length_eq_zero_iff.1 (by simpa using h1)
      subst this
      simp [Builtin.firstCells, loadCells, loadCellsFrom, Sem.run]
    obtain ⟨b, o, s⟩ := a
    simp only at hs; subst hs
    have := run_loadCells (P := P) hw hb (o := o) (len * m) 0 ys #[] h1 (fun j hj => by simpa using hc j hj)
    simpa [Builtin.firstCells, loadCells] using this

/-- How many cells and bytes a variable of a type has. -/
def sizeBytes (P : Program) (t : TypeId) : Option (Nat × Nat) := (P.info? t).map fun d => (d.size, d.bytes)
theorem e_append {c : Call} {x y : Operand} {t u e eu : TypeId} {m by_ len cap k kc : Nat} {p q : Option Addr} {ys zs : List Value} {z : Array Value} (hc : c = ⟨.builtin .append, #[x, y], #[t, u]⟩)
    (ht : P.underlying t = some (.slice e)) (hu : P.underlying u = some (.slice eu)) (hsb : sizeBytes P e = some (m, by_)) (hz : zeroOf P e = some z) (hzm : z.size = m) (hx : ev l x = some (.slice p len cap)) (hy : ev l y = some (.slice q k kc))
    (ho : Own σ e m p len cap ys) (hr : Rd σ m q k zs) (hk : 0 < k ∨ p.isSome = true) (hf : ∀ v ∈ zs, flat v = true) (hB : (len + k) * by_ ≤ 140737488355328) (hL : len + k ≤ 4611686018427387904)
    (h : ∀ b' o' cap' τ, (σ b' = none ∨ ∃ a, p = some a ∧ a.block = b') → But σ b' τ → Own τ e m (some ⟨b', o', none⟩) (len + k) cap' (ys ++ zs) → K (.slice (some ⟨b', o', none⟩) (len + k) cap') τ) : EOp P n (.call c) ty l σ K := .mk fun a w ha hw dst pos af g => by
  subst hc
  obtain ⟨d, hd, hdm⟩ : ∃ d, P.info? e = some d ∧ (d.size, d.bytes) = (m, by_) := by
    unfold sizeBytes at hsb
    exact Option.map_eq_some_iff.1 hsb
  simp only [Prod.mk.injEq] at hdm
  obtain ⟨hm, rfl⟩ := hdm
  have hsrc := firstCells_run (P := P) hw.heap hr (cap := kc)
  have hold := firstCells_run (P := P) hw.heap ho.rd (cap := cap)
  obtain ⟨o1, o2, o3⟩ := ho
  have e0 : ∀ r : Result Value, (Builtin.append_ #[t, u] ty #[.slice p len cap, .slice q k kc]).run P w = r → (execOp a.eval ⟨dst, .call ⟨.builtin .append, #[x, y], #[t, u]⟩, ty, pos, af, g⟩).run P w = r.andThen fun v w' => .ok (.value v) w' := by
    intro r hr
    simp [execOp, resolve, invoke, builtin, ha.eval hx, ha.eval hy, hr]
  by_cases hroom : len + k ≤ cap
  · -- in its place
    cases p with
    | none => simp at o3 hk; omega
    | some ad =>
      obtain ⟨hs, cs, hb, hcap, hcells⟩ := o3
      obtain ⟨b, o, s⟩ := ad
      simp only at hs hb hcap hcells; subst hs
      have hzl : zs.length = k * m := hr.1
      have hle : (len + k) * m ≤ cap * m := Nat.mul_le_mul_right m hroom
      rw [Nat.add_mul] at hle
      obtain ⟨w', h1, h2⟩ := storeCells_run (P := P) zs 0 σ w cs hw hb (o := o + len * m) (by omega) hf
      have hrun : (Builtin.append_ #[t, u] ty #[.slice (some ⟨b, o, none⟩) len cap, .slice q k kc]).run P w = .ok (.slice (some ⟨b, o, none⟩) (len + k) cap) w' := by
        simp [Builtin.append_, run_underlying ht, run_underlying hu, sizeOf, typeInfo, program, Sem.run, hd, hm, Builtin.lenOf, hroom, hsrc, add_plain', h1]
      rw [e0 _ hrun]
      refine ⟨_, h2, h b o cap _ (.inr ⟨_, rfl, rfl⟩) (But.upd _ _ _) ⟨by simp [o1, hzl, Nat.add_mul], hroom, rfl, _, upd_same _ _ _, by rw [setRow_size]; exact hcap, fun i hi => ?_⟩⟩
      rw [Nat.add_mul] at hi
      show (setRow cs (o + len * m + 0) zs)[o + i]? = _
      rw [setRow_get, List.getElem?_append]
      by_cases hlt : i < len * m
      · rw [if_neg (by omega), if_pos (by omega)]; exact hcells i hlt
      · rw [if_pos (by omega), if_neg (by omega), o1]
        rw [show o + i - (o + len * m + 0) = i - len * m by omega]
  · -- a new row
    obtain ⟨zv, hz1, hz2⟩ := zeroOf_run hz { w with drawn := w.drawn + 1 }
    have hneed : ¬ (9223372036854775807 : Int) < ((len : Int) + (k : Int)) := by omega
    have h48 : ¬ (281474976710656 : Nat) < Builtin.nextslicecap (len + k) cap * d.bytes := by
      have := growslice_fits (need := len + k) (old := cap) (bytes := d.bytes) (by omega) hB; omega
    generalize hN : (Question.appendCap (len + k) cap e).cut (w.tape w.drawn (Question.appendCap (len + k) cap e)) = N
    have hNle : len + k ≤ N := by rw [← hN]; simp [Question.cut]
    have hw1 : Sat { w with drawn := w.drawn + 1 } σ := hw.drew
    have hsrc1 := firstCells_run (P := P) hw1.heap hr (cap := kc)
    have hold1 : (Builtin.firstCells m len (.slice p len cap)).run P { w with drawn := w.drawn + 1 } = .ok ys.toArray { w with drawn := w.drawn + 1 } := firstCells_run (P := P) hw1.heap (Own.rd (T := e) (cap := cap) ⟨o1, o2, o3⟩) (cap := cap)
    have hrun : (Builtin.append_ #[t, u] ty #[.slice p len cap, .slice q k kc]).run P w = .ok (.slice (some ⟨w.heap.size, 0, none⟩) (len + k) N)
        (w.drew.alloc (.cells (ys.toArray ++ (zs.toArray ++ Builtin.zeroCells z (N - (len + k)))) e)) := by
      have hz' : (zeroValue e).run P w.drew = .ok zv w.drew := hz1
      have hsrc' : (Builtin.firstCells m k (.slice q k kc)).run P w.drew = .ok zs.toArray w.drew := hsrc1
      have hold' : (Builtin.firstCells m len (.slice p len cap)).run P w.drew = .ok ys.toArray w.drew := hold1
      simp [Builtin.append_, run_underlying ht, run_underlying hu, sizeOf, typeInfo, program, Sem.run, hd, hm, Builtin.lenOf, hroom, hneed, h48, choose, Question.forced, hN, askRoom, mark, hold', hsrc', hz', hz2, newRow, newObj]
    rw [e0 _ hrun]
    have hzl : zs.length = k * m := hr.1
    have hsz : (Builtin.zeroCells z (N - (len + k))).size = (N - (len + k)) * m := by simp [Builtin.zeroCells, hzm]
    refine ⟨_, hw1.push (.cells (ys.toArray ++ (zs.toArray ++ Builtin.zeroCells z (N - (len + k)))) e), h w.heap.size 0 N _ (.inl hw.fresh) (But.upd _ _ _) ⟨by simp [o1, hzl, Nat.add_mul], hNle, rfl, _, upd_same _ _ _, ?_, fun i hi => ?_⟩⟩
    · simp only [Array.size_append, List.size_toArray, hsz, o1, hzl]
      rw [← Nat.add_mul, ← Nat.add_mul]
      have : len + (k + (N - (len + k))) = N := by omega
      rw [this]; omega
    · rw [Nat.add_mul] at hi
      show (ys.toArray ++ (zs.toArray ++ Builtin.zeroCells z (N - (len + k))))[0 + i]? = _
      rw [← Array.append_assoc, Nat.zero_add, Array.getElem?_append, if_pos (by simp; omega)]
      simp
end
end Go.Gw
