/- How a row of events that came in lies in memory. -/
import Derived.Test.YtdgdbnkhmdncdaaL2
import Derived.ProofKit
import Derived.SizedLaws
import Derived.Deep.Slices
set_option linter.unusedSectionVars false
set_option linter.unusedSimpArgs false
set_option linter.unusedVariables false
namespace Go.Proofs.Ytdgdbnkhmdncdaa
open Go.Gw Go.Cs
variable [Env]
set_option maxRecDepth 100000
/-- All that a world's heap holds. -/
def full (w : World) : Heap := fun b => w.heap[b]?
theorem c_39 : Try.prog.cellsOf 39 = 19 := by kernel_rfl
theorem c_34 : Try.prog.cellsOf 34 = 6 := by kernel_rfl
theorem c_36 : Try.prog.cellsOf 36 = 4 := by kernel_rfl
theorem c_30 : Try.prog.cellsOf 30 = 2 := by kernel_rfl
theorem c_124 : Try.prog.cellsOf 124 = 2 := by kernel_rfl
theorem c_3 : Try.prog.cellsOf 3 = 1 := by kernel_rfl
theorem c_9 : Try.prog.cellsOf 9 = 1 := by kernel_rfl
theorem c_28 : Try.prog.cellsOf 28 = 1 := by kernel_rfl
theorem c_31 : Try.prog.cellsOf 31 = 1 := by kernel_rfl
theorem c_32 : Try.prog.cellsOf 32 = 1 := by kernel_rfl
theorem c_37 : Try.prog.cellsOf 37 = 1 := by kernel_rfl
theorem by_31 : Try.prog.bytesOf 31 = 4 := by kernel_rfl
theorem by_124 : Try.prog.bytesOf 124 = 16 := by kernel_rfl

theorem add_block (a : Addr) (n : Nat) : (a.add n).block = a.block := by unfold Addr.add; split <;> rfl
theorem add_off (a : Addr) (n : Nat) : (a.add n).off = a.off + n := by
  unfold Addr.add; split
  · rename_i h; simp_all
  · rfl
theorem add_add' (a : Addr) (i j : Nat) : (a.add i).add j = a.add (i + j) := by
  unfold Addr.add
  by_cases hi : i = 0
  · subst hi; simp
  · by_cases hj : j = 0
    · subst hj; simp
    · simp [hi, hj, Nat.add_assoc]
/-! ### Rows -/
theorem rows_ex {X : Type} {Q : Nat → X → Prop} : ∀ len : Nat, (∀ i, i < len → ∃ x, Q i x) → ∃ xs : List X, xs.length = len ∧ ∀ (i : Nat) (x : X), xs[i]? = some x → Q i x
  | 0, _ => ⟨[], rfl, fun i x h => by cases h⟩
  | n + 1, h => by
    obtain ⟨xs, hl, hq⟩ := rows_ex n fun i hi => h i (by omega)
    obtain ⟨y, hy⟩ := h n (by omega)
    refine ⟨xs ++ [y], by simp [hl], fun i x hx => ?_⟩
    rcases Nat.lt_or_ge i n with hlt | hge
    · rw [List.getElem?_append_left (by omega)] at hx; exact hq i x hx
    · rw [List.getElem?_append_right (by omega), hl] at hx
      cases hd : i - n with
      | zero => rw [hd] at hx; simp at hx; subst hx; rw [show i = n by omega]; exact hy
      | succ d => rw [hd] at hx; simp at hx
theorem rd_of {X : Type} {w : World} {f : X → List Value} {m : Nat} (hf : ∀ x, (f x).length = m) (hm : 0 < m) {a : Addr} {xs : List X} (h : ∀ (i : Nat) (x : X), xs[i]? = some x → w.cells? 0 (a.add (i * m)) m = some (f x)) : Rd (full w) m (some a) xs.length (xs.flatMap f) := by
  refine ⟨flatMap_length hf xs, ?_⟩
  rcases Nat.eq_zero_or_pos xs.length with h0 | hpos
  · exact .inl h0
  have cell : ∀ (i j : Nat) (x : X), xs[i]? = some x → j < m → ∃ v, (f x)[j]? = some v ∧ w.cell? (a.add (i * m + j)) = some v := fun i j x hx hj => by
    obtain ⟨_, h2, h3⟩ := World.cells?_some (h i x hx)
    have h4 := h3 j hj
    have hlt : j < (f x).length := by rw [hf]; exact hj
    refine ⟨_, List.getElem?_eq_getElem hlt, ?_⟩
    rw [List.getElem?_eq_getElem hlt] at h4
    rw [← h4, add_add']
  obtain ⟨v, _, hv⟩ := cell 0 0 _ (List.getElem?_eq_getElem hpos) hm
  have hs : a.spot = none := by
    have := World.cell?_spot hv
    simpa [Addr.add] using this
  have hb : ∃ cs T fz, w.heap[a.block]? = some (.cells cs T fz) := by
    unfold World.cell? at hv
    have e : (a.add (0 * m + 0)).block = a.block := add_block _ _
    rw [e] at hv
    cases ho : w.heap[a.block]? with
    | none => rw [ho] at hv; cases hv
    | some o => cases o with
      | cells cs T fz => exact ⟨cs, T, fz, rfl⟩
      | _ => rw [ho] at hv; simp at hv
  obtain ⟨cs, T, fz, hb⟩ := hb
  refine .inr ⟨hs, cs, T, fz, hb, fun idx hidx => ?_⟩
  have hi : idx / m < xs.length := (Nat.div_lt_iff_lt_mul hm).2 hidx
  have hj : idx % m < m := Nat.mod_lt _ hm
  have hx := List.getElem?_eq_getElem hi
  obtain ⟨v, hv1, hv2⟩ := cell (idx / m) (idx % m) _ hx hj
  have e1 : idx / m * m + idx % m = idx := by rw [Nat.mul_comm]; exact Nat.div_add_mod idx m
  have h5 := flatMap_get hf xs (idx / m) (idx % m) _ hx hj
  rw [e1] at h5 hv2
  rw [h5, hv1]
  unfold World.cell? at hv2
  rw [add_block, hb] at hv2
  simp only [add_off] at hv2
  split at hv2
  · cases hv2
  · exact hv2

/-! ### What is told of sizes -/
section
variable {H : Type} {enc : TypeId × Value → H} {w : World} {base : Nat} {spare : Nat → Bool} {held : Bool}
def Wt (t : TypeId) (d : DataW H) : Prop := ∀ n ∈ d.weights Try.prog t, n ≤ reachBytes
theorem weightsAll_mem {e : TypeId} {d : DataW H} {n : Nat} : ∀ {l : List (DataW H)}, d ∈ l → n ∈ d.weights Try.prog e → n ∈ DataW.weightsAll Try.prog e l
  | x :: l, hd, hn => by
    simp only [DataW.weightsAll, List.mem_append]
    rcases List.mem_cons.1 hd with rfl | h
    · exact .inl hn
    · exact .inr (weightsAll_mem h hn)
theorem Wt.field {t : TypeId} {fs : Array Field} {xs : List (DataW H × List MemPlace)} (hu : Try.prog.underlying t = some (.struct fs)) (h : Wt t (.agg (xs.map (·.1)))) {i : Nat} {f : Field} {y : DataW H × List MemPlace} (hf : fs[i]? = some f) (hy : xs[i]? = some y) : Wt f.type y.1 := fun n hn => by
  refine h n ?_
  simp only [DataW.weights, hu]
  exact DataW.weights_mem_each (j := i) (t := f.type) (d := y.1) (by simp [hf]) (by simp [hy]) n hn
theorem Wt.elem {t e : TypeId} {es sp : List (DataW H)} (hu : Try.prog.underlying t = some (.slice e)) (h : Wt t (.slice es sp)) {d : DataW H} (hd : d ∈ es) : Wt e d := fun n hn => by
  refine h n ?_
  simp only [DataW.weights, hu, List.mem_cons, List.mem_append]
  exact .inr (.inl (weightsAll_mem hd hn))
theorem Wt.len {t e : TypeId} {es sp : List (DataW H)} (hu : Try.prog.underlying t = some (.slice e)) (h : Wt t (.slice es sp)) : (es.length + sp.length) * Try.prog.bytesOf e ≤ reachBytes :=
  h _ (by simp only [DataW.weights, hu]; exact List.mem_cons_self ..)

/-! ### The parts of an event -/
theorem int_of {k : IntKind} {t : TypeId} {n : Nat} {cs : List Value} {x : DataW H × List MemPlace} (hu : Try.prog.underlying t = some (.int k)) (h : DataW.trod enc Try.prog w base spare held n t cs = some x) : ∃ a, cs = [.int k a] := by
  obtain ⟨a, h1, _⟩ := DataW.trod_int hu h; exact ⟨a, h1⟩
theorem some_of {X : Type} {o : Option X} {xs : List X} {i : Nat} (h : o = xs[i]?) (hi : i < xs.length) : ∃ y, o = some y ∧ xs[i]? = some y := ⟨xs[i], by rw [h, List.getElem?_eq_getElem hi], List.getElem?_eq_getElem hi⟩
theorem conf_of {n : Nat} {a b : Value} {x : DataW H × List MemPlace} (h : DataW.trod enc Try.prog w base spare held n 30 [a, b] = some x) : ∃ k : Conf, [a, b] = [.int .u64 k.1, .int .i64 k.2] := by
  obtain ⟨xs, m, _, _, _, hl, hf⟩ := DataW.trod_struct Try.underlying30 h
  have f0 := hf 0 _ rfl
  have f1 := hf 1 _ rfl
  simp [c_28, c_3] at f0 f1
  obtain ⟨y0, g0, _⟩ := some_of f0 (by rw [hl]; decide)
  obtain ⟨y1, g1, _⟩ := some_of f1 (by rw [hl]; decide)
  obtain ⟨p, hp⟩ := int_of Try.underlying28 g0
  obtain ⟨q, hq⟩ := int_of Try.underlying3 g1
  simp at hp hq
  exact ⟨(p, q), by rw [hp, hq]⟩
theorem name_of {n : Nat} {cs : List Value} {x : DataW H × List MemPlace} (h : DataW.trod enc Try.prog w base spare held n 124 cs = some x) : ∃ k : Name, cs = nameC k := by
  obtain ⟨xs, m, _, _, hc, hl, hf⟩ := DataW.trod_struct Try.underlying124 h
  rw [c_124] at hc
  match cs, hc with
  | [a, b], _ =>
    have f0 := hf 0 _ rfl
    have f1 := hf 1 _ rfl
    simp [c_31, c_3] at f0 f1
    obtain ⟨y0, g0, _⟩ := some_of f0 (by rw [hl]; decide)
    obtain ⟨y1, g1, _⟩ := some_of f1 (by rw [hl]; decide)
    obtain ⟨p, hp⟩ := int_of Try.underlying3 g0
    obtain ⟨q, hq⟩ := int_of Try.underlying31 g1
    simp at hp hq
    exact ⟨(p, q), by rw [hp, hq]; rfl⟩
theorem view_of {n : Nat} {a b c d : Value} {x : DataW H × List MemPlace} (h : DataW.trod enc Try.prog w base spare held n 36 [a, b, c, d] = some x) : ∃ k : View, [a, b, c, d] = [.int .u64 k.1, .int .u64 k.2.1.1, .int .i64 k.2.1.2, .int .u64 k.2.2] := by
  obtain ⟨xs, m, _, _, _, hl, hf⟩ := DataW.trod_struct Try.underlying36 h
  have f0 := hf 0 _ rfl
  have f1 := hf 1 _ rfl
  have f2 := hf 2 _ rfl
  simp [c_28, c_30] at f0 f1 f2
  obtain ⟨y0, g0, _⟩ := some_of f0 (by rw [hl]; decide)
  obtain ⟨y1, g1, _⟩ := some_of f1 (by rw [hl]; decide)
  obtain ⟨y2, g2, _⟩ := some_of f2 (by rw [hl]; decide)
  obtain ⟨p, hp⟩ := int_of Try.underlying28 g0
  obtain ⟨q, hq⟩ := conf_of g1
  obtain ⟨r, hr⟩ := int_of Try.underlying28 g2
  simp at hp hq hr
  exact ⟨(p, q, r), by rw [hp, hq.1, hq.2, hr]⟩
theorem deps_of {n : Nat} {v : Value} {x : DataW H × List MemPlace} (h : DataW.trod enc Try.prog w 0 spare held n 32 [v] = some x) (hw : Wt 32 x.1) : ∃ (p : Option Addr) (c : Nat) (xs : List Int), v = .slice p xs.length c ∧ Rd (full w) 1 p xs.length (xs.flatMap u32) ∧ xs.length * 4 ≤ 140737488355328 := by
  rcases Go.Deep.open_slice Try.underlying32 h with ⟨hv, _⟩ | ⟨a, len, cap, m, n, D, Pl, hv, _, hl, _, hm, hx, hel⟩
  · simp at hv; subst hv
    exact ⟨none, 0, [], rfl, ⟨rfl, rfl⟩, by decide⟩
  · simp at hv; subst hv
    have hlen : len * 4 ≤ 140737488355328 := by
      rw [hx] at hw
      have := hw.len Try.underlying32
      rw [by_31] at this
      simp [reachBytes] at this
      omega
    obtain ⟨xs, h1, h2⟩ := rows_ex (Q := fun i y => w.cells? 0 (a.add (i * 1)) 1 = some (u32 y)) len fun i hi => by
      obtain ⟨cs', c1, c2⟩ := hel i (by rw [hm]; split <;> omega)
      rw [c_31] at c1
      obtain ⟨y, hy⟩ := int_of Try.underlying31 c2
      subst hy
      exact ⟨y, c1⟩
    subst h1
    exact ⟨some a, cap, xs, rfl, rd_of u32_len (by decide) h2, hlen⟩
theorem names_of {n : Nat} {v : Value} {x : DataW H × List MemPlace} (h : DataW.trod enc Try.prog w 0 spare held n 37 [v] = some x) (hw : Wt 37 x.1) : ∃ (p : Option Addr) (c : Nat) (xs : List Name), v = .slice p xs.length c ∧ Rd (full w) 2 p xs.length (xs.flatMap nameC) ∧ xs.length * 4 ≤ 140737488355328 := by
  rcases Go.Deep.open_slice Try.underlying37 h with ⟨hv, _⟩ | ⟨a, len, cap, m, n, D, Pl, hv, _, hl, _, hm, hx, hel⟩
  · simp at hv; subst hv
    exact ⟨none, 0, [], rfl, ⟨rfl, rfl⟩, by decide⟩
  · simp at hv; subst hv
    have hlen : len * 4 ≤ 140737488355328 := by
      rw [hx] at hw
      have := hw.len Try.underlying37
      rw [by_124] at this
      simp [reachBytes] at this
      omega
    obtain ⟨xs, h1, h2⟩ := rows_ex (Q := fun i y => w.cells? 0 (a.add (i * 2)) 2 = some (nameC y)) len fun i hi => by
      obtain ⟨cs', c1, c2⟩ := hel i (by rw [hm]; split <;> omega)
      rw [c_124] at c1
      obtain ⟨y, hy⟩ := name_of c2
      subst hy
      exact ⟨y, c1⟩
    subst h1
    exact ⟨some a, cap, xs, rfl, rd_of nameC_len (by decide) h2, hlen⟩
theorem str_of {n : Nat} {v : Value} {x : DataW H × List MemPlace} (h : DataW.trod enc Try.prog w base spare held n 9 [v] = some x) : ∃ s, v = .string s := by
  obtain ⟨s, h1, _⟩ := DataW.trod_string Try.underlying9 h
  simp at h1; exact ⟨s, h1⟩
theorem msg_of {n : Nat} {a b c d e f : Value} {x : DataW H × List MemPlace} (h : DataW.trod enc Try.prog w 0 spare held n 34 [a, b, c, d, e, f] = some x) (hw : Wt 34 x.1) : ∃ m : Msg, [a, b, c, d, e, f] = m.cells ∧ m.ok (full w) := by
  obtain ⟨xs, k, _, hx, _, hl, hf⟩ := DataW.trod_struct Try.underlying34 h
  rw [hx] at hw
  have f0 := hf 0 _ rfl
  have f1 := hf 1 _ rfl
  have f2 := hf 2 _ rfl
  have f3 := hf 3 _ rfl
  have f4 := hf 4 _ rfl
  have f5 := hf 5 _ rfl
  simp [c_28, c_3, c_31, c_32, c_9] at f0 f1 f2 f3 f4 f5
  obtain ⟨y0, g0, _⟩ := some_of f0 (by rw [hl]; decide)
  obtain ⟨y1, g1, _⟩ := some_of f1 (by rw [hl]; decide)
  obtain ⟨y2, g2, _⟩ := some_of f2 (by rw [hl]; decide)
  obtain ⟨y3, g3, _⟩ := some_of f3 (by rw [hl]; decide)
  obtain ⟨y4, g4, i4⟩ := some_of f4 (by rw [hl]; decide)
  obtain ⟨y5, g5, _⟩ := some_of f5 (by rw [hl]; decide)
  obtain ⟨p0, h0⟩ := int_of Try.underlying3 g0
  obtain ⟨p1, h1⟩ := int_of Try.underlying31 g1
  obtain ⟨p2, h2⟩ := int_of Try.underlying28 g2
  obtain ⟨p3, h3⟩ := int_of Try.underlying3 g3
  obtain ⟨q, qc, ds, h4, h4r, h4b⟩ := deps_of g4 (hw.field Try.underlying34 (i := 4) rfl i4)
  obtain ⟨s, h5⟩ := str_of g5
  simp at h0 h1 h2 h3
  exact ⟨⟨p0, p1, p2, p3, ds, q, qc, s⟩, by rw [h0, h1, h2, h3, h4, h5]; rfl, h4r, h4b⟩
theorem ev_of {n : Nat} {cs : List Value} {x : DataW H × List MemPlace} (h : DataW.trod enc Try.prog w 0 spare held n 39 cs = some x) (hw : Wt 39 x.1) : ∃ e : Ev, cs = e.cells ∧ e.ok (full w) := by
  obtain ⟨xs, k, _, hx, hc, hl, hf⟩ := DataW.trod_struct Try.underlying39 h
  rw [hx] at hw
  rw [c_39] at hc
  match cs, hc with
  | [v0, v1, v2, v3, v4, v5, v6, v7, v8, v9, v10, v11, v12, v13, v14, v15, v16, v17, v18], _ =>
    have f0 := hf 0 _ rfl
    have f1 := hf 1 _ rfl
    have f2 := hf 2 _ rfl
    have f3 := hf 3 _ rfl
    have f4 := hf 4 _ rfl
    have f5 := hf 5 _ rfl
    have f6 := hf 6 _ rfl
    have f7 := hf 7 _ rfl
    have f8 := hf 8 _ rfl
    simp [c_28, c_3, c_30, c_34, c_36, c_37, c_9] at f0 f1 f2 f3 f4 f5 f6 f7 f8
    obtain ⟨y0, g0, _⟩ := some_of f0 (by rw [hl]; decide)
    obtain ⟨y1, g1, _⟩ := some_of f1 (by rw [hl]; decide)
    obtain ⟨y2, g2, _⟩ := some_of f2 (by rw [hl]; decide)
    obtain ⟨y3, g3, _⟩ := some_of f3 (by rw [hl]; decide)
    obtain ⟨y4, g4, _⟩ := some_of f4 (by rw [hl]; decide)
    obtain ⟨y5, g5, i5⟩ := some_of f5 (by rw [hl]; decide)
    obtain ⟨y6, g6, _⟩ := some_of f6 (by rw [hl]; decide)
    obtain ⟨y7, g7, i7⟩ := some_of f7 (by rw [hl]; decide)
    obtain ⟨y8, g8, _⟩ := some_of f8 (by rw [hl]; decide)
    obtain ⟨p0, h0⟩ := int_of Try.underlying3 g0
    obtain ⟨p1, h1⟩ := int_of Try.underlying3 g1
    obtain ⟨k2, h2⟩ := conf_of g2
    obtain ⟨k3, h3⟩ := conf_of g3
    obtain ⟨p4, h4⟩ := int_of Try.underlying28 g4
    obtain ⟨m, h5, m5⟩ := msg_of g5 (hw.field Try.underlying39 (i := 5) rfl i5)
    obtain ⟨k6, h6⟩ := view_of g6
    obtain ⟨np, nc, ns, h7, r7, b7⟩ := names_of g7 (hw.field Try.underlying39 (i := 7) rfl i7)
    obtain ⟨s, h8⟩ := str_of g8
    simp at h0 h1 h2 h3 h4 h6
    refine ⟨⟨p0, p1, k2, k3, p4, m, k6, ns, np, nc, s⟩, ?_, m5, r7, b7⟩
    simp only [Msg.cells, List.cons.injEq, and_true] at h5
    obtain ⟨a0, a1, a2, a3, a4, a5⟩ := h5
    rw [h0, h1, h2.1, h2.2, h3.1, h3.2, h4, a0, a1, a2, a3, a4, a5, h6.1, h6.2.1, h6.2.2.1, h6.2.2.2, h7, h8]; rfl
theorem trace_of {n : Nat} {v : Value} {x : DataW H × List MemPlace} (h : DataW.trod enc Try.prog w 0 spare held n 22 [v] = some x) (hw : Wt 22 x.1) : ∃ (p : Option Addr) (c : Nat) (es : List Ev), v = .slice p es.length c ∧ TraceIs (full w) p es ∧ es.length ≤ c := by
  rcases Go.Deep.open_slice Try.underlying22 h with ⟨hv, _⟩ | ⟨a, len, cap, m, n, D, Pl, hv, _, hl, _, hm, hx, hel⟩
  · simp at hv; subst hv
    exact ⟨none, 0, [], rfl, ⟨⟨rfl, rfl⟩, fun e he => by cases he⟩, Nat.le_refl _⟩
  · simp at hv; subst hv
    rw [hx] at hw
    obtain ⟨xs, h1, h2⟩ := rows_ex (Q := fun i (y : Ev) => w.cells? 0 (a.add (i * 19)) 19 = some y.cells ∧ y.ok (full w)) len fun i hi => by
      obtain ⟨cs', c1, c2⟩ := hel i (by rw [hm]; split <;> omega)
      rw [c_39] at c1
      obtain ⟨y, hy, hok⟩ := ev_of c2 (hw.elem Try.underlying22 (List.mem_map.2 ⟨i, List.mem_range.2 hi, rfl⟩))
      subst hy
      exact ⟨y, c1, hok⟩
    subst h1
    exact ⟨some a, cap, xs, rfl, ⟨rd_of Ev.cells_len (by decide) fun i y hy => (h2 i y hy).1, fun e he => by
      obtain ⟨i, hi⟩ := List.mem_iff_getElem?.1 he
      exact (h2 i e hi).2⟩, hl⟩
end
end Go.Proofs.Ytdgdbnkhmdncdaa
