/- Empty slices, slices that are nil, rows that are handed over to what is only read. -/
import Derived.Test.YtdgdbnkhmdncdaaGwO
set_option linter.unusedSectionVars false
set_option linter.unusedSimpArgs false
set_option linter.unusedVariables false
namespace Go.Gw
variable [Env]
section
variable {P : Program} {n : Nat} {ty : TypeId} {l : Slots} {σ τ : Heap} {K : Value → Heap → Prop}
abbrev encI : Int → Value := fun a => .int .i64 a
theorem Rd.lit {b : Nat} {cs : Array Value} {T : TypeId} {fz : Nat × Nat} {m k : Nat} (h : σ b = some (.cells cs T fz)) (hl : cs.toList.length = k * m) : Rd σ m (some ⟨b, 0, none⟩) k cs.toList :=
  ⟨hl, .inr ⟨rfl, cs, T, fz, h, fun i _ => by show cs[0 + i]? = _; rw [Nat.zero_add, Array.getElem?_toList]⟩⟩
theorem Own.empty {b : Nat} {T : TypeId} {m : Nat} (h : σ b = some (.cells #[] T (0, 0))) : Own σ T m (some ⟨b, 0, none⟩) 0 0 [] :=
  ⟨by simp, Nat.le_refl 0, rfl, #[], h, by simp, fun i hi => by omega⟩
theorem Stars.zown {b N : Nat} {cs : Array Value} {T : TypeId} {m : Nat} {as : List Asr} (hN : N * m ≤ cs.size) (h : Stars (Gw.pt b (.cells cs T (0, 0)) :: as) σ) : Stars (ownA T m (some ⟨b, 0, none⟩) 0 N [] :: as) σ :=
  h.imp fun _ hx => ⟨by simp, Nat.zero_le _, rfl, cs, hx, by simpa using hN, fun i hi => by omega⟩
/-- A block that is a slice's. -/
theorem Stars.empty {b : Nat} {T : TypeId} {m : Nat} {as : List Asr} (h : Stars (Gw.pt b (.cells #[] T (0, 0)) :: as) σ) : Stars (ownA T m (some ⟨b, 0, none⟩) 0 0 [] :: as) σ := h.imp fun _ hx => Own.empty hx
theorem Stars.ownRo {T : TypeId} {m len cap : Nat} {p : Option Addr} {ys : List Value} {ρ : Heap} {as : List Asr} (h : Stars (ownA T m p len cap ys :: Gw.ro ρ :: as) σ) : ∃ ρ', Sub ρ ρ' ∧ Rd ρ' m p len ys ∧ Stars (Gw.ro ρ' :: as) σ := by
  cases p with
  | none =>
    refine ⟨ρ, Sub.rfl' ρ, ?_, h.drop⟩
    exact ((h.own 0 rfl).rd.1 |> fun h1 => ⟨h1, (h.own 0 rfl).rd.2⟩)
  | some a =>
    have ho := h.own 0 rfl
    obtain ⟨h1, h2, hs, cs, hb, hsz, hc⟩ := ho
    have h3 : Stars (Gw.pt a.block (.cells cs T (0, 0)) :: Gw.ro ρ :: as) σ := by
      obtain ⟨hp, hd, h⟩ := h
      obtain ⟨s0, s1⟩ := h 0 _ rfl
      obtain ⟨_, _, _, cs', hb', _⟩ := (show Own (hp 0) T m (some a) len cap ys from s1)
      have := s0 _ _ hb'
      rw [hb] at this
      cases this
      refine ⟨hp, hd, fun i x hi => ?_⟩
      cases i with
      | zero => simp at hi; subst hi; exact ⟨s0, hb'⟩
      | succ i => exact h (i + 1) x hi
    obtain ⟨ρ', r1, r2, r3⟩ := h3.roNew
    exact ⟨ρ', r1, ⟨h1, .inr ⟨hs, cs, T, _, r2, hc⟩⟩, r3⟩

theorem e_buildSlice0 {t e : TypeId} {em : Nat} {z : Array Value} (hu : sliceOf P t = some (e, em)) (hz : zeroOf P e = some z) (h : ∀ b τ, New σ b (.cells #[] e (0, 0)) τ → K (.slice (some ⟨b, 0, none⟩) 0 0) τ) : EOp P n (.buildSlice t 0 #[]) ty l σ K := .mk fun a w ha hw dst pos af g => by
  obtain ⟨hu', d, hd, rfl⟩ := sliceOf_some hu
  have e : (execOp a.eval ⟨dst, .buildSlice t 0 #[], ty, pos, af, g⟩).run P w = .ok (.value (.slice (some ⟨w.heap.size, 0, none⟩) 0 0)) { w with heap := w.heap.push (.cells #[] e) } := by
    simp only [execOp, Instr.buildSlice]
    simp only [Sem.run_bind, run_underlying hu', Result.andThen_ok]
    simp only [sizeOf, typeInfo, program, Sem.run_bind, Sem.run, hd, Result.andThen_ok, pure]
    have hr0 : Array.range 0 = #[] := by apply Array.ext <;> simp
    simp [Instr.fill, newRow, newObj, Sem.run, hr0]
  rw [e]
  exact ⟨_, hw.push _, h _ _ (New.upd _ hw.fresh)⟩

/-- Nothing is appended. -/
theorem e_append0 {c : Call} {x y : Operand} {t u e eu : TypeId} {m by_ : Nat} {len cap kc : Nat} {p q : Option Addr} (hc : c = ⟨.builtin .append, #[x, y], #[t, u]⟩)
    (ht : P.underlying t = some (.slice e)) (hu : P.underlying u = some (.slice eu)) (hsb : sizeBytes P e = some (m, by_)) (hx : ev l x = some (.slice p len cap)) (hy : ev l y = some (.slice q 0 kc)) (hl : len ≤ cap)
    (h : K (.slice p len cap) σ) : EOp P n (.call c) ty l σ K := .mk fun a w ha hw dst pos af g => by
  subst hc
  obtain ⟨d, hd, _⟩ : ∃ d, P.info? e = some d ∧ (d.size, d.bytes) = (m, by_) := by
    unfold sizeBytes at hsb
    exact Option.map_eq_some_iff.1 hsb
  have hrun : (Builtin.append_ #[t, u] ty #[.slice p len cap, .slice q 0 kc]).run P w = .ok (.slice p len cap) w := by
    have hsrc : (Builtin.firstCells d.size 0 (.slice q 0 kc)).run P w = .ok #[] w := by
      cases q
      · simp [Builtin.firstCells]
      · simp only [Builtin.firstCells, loadCells, Nat.zero_mul]; rfl
    cases p <;> simp [Builtin.append_, run_underlying ht, run_underlying hu, sizeOf, typeInfo, program, Sem.run, hd, Builtin.lenOf, hl, hsrc, storeCells]
  have : (execOp a.eval ⟨dst, .call ⟨.builtin .append, #[x, y], #[t, u]⟩, ty, pos, af, g⟩).run P w = .ok (.value (.slice p len cap)) w := by
    simp [execOp, resolve, invoke, builtin, ha.eval hx, ha.eval hy, hrun]
  rw [this]
  exact ⟨_, hw, h⟩

section
variable {t u : TypeId} {x y : Operand}
theorem run_sleq {e : TypeId} {p : Option Addr} {len cap : Nat} (ht : P.underlying t = some (.slice e)) (w : World) (m : Nat) : (Op.equalIn (m + 1) t (.slice p len cap) (.slice none 0 0)).run P w = .ok p.isNone w := by
  cases p <;> simp [Op.equalIn, run_underlying ht]
theorem eqGuard_slice (op : BinOp) (t : TypeId) (x y : Operand) (p q : Option Addr) (a b c d : Nat) (w : World) : (eqGuard op t x y (.slice p a b) (.slice q c d)).run P w = .ok () w := by cases op <;> rfl
theorem q_snil {e : TypeId} {p : Option Addr} {len cap : Nat} (ht : P.underlying t = some (.slice e)) (hx : ev l x = some (.slice p len cap)) (hy : ev l y = some (.slice none 0 0)) : QOp P n (.binOp .eql t x y u) ty l σ (.bool p.isNone) :=
  q_bin hx hy (eqGuard_slice _ _ _ _ _ _ _ _ _ _) fun w => by
    have := run_sleq (P := P) (p := p) (len := len) (cap := cap) ht w 9999
    show (do pure (Value.bool (← Op.equalIn (9999 + 1) t (.slice p len cap) (.slice none 0 0))) : Sem Value).run P w = _
    rw [Sem.run_bind, this]; rfl
theorem q_snnil {e : TypeId} {p : Option Addr} {len cap : Nat} (ht : P.underlying t = some (.slice e)) (hx : ev l x = some (.slice p len cap)) (hy : ev l y = some (.slice none 0 0)) : QOp P n (.binOp .neq t x y u) ty l σ (.bool !p.isNone) :=
  q_bin hx hy (eqGuard_slice _ _ _ _ _ _ _ _ _ _) fun w => by
    have := run_sleq (P := P) (p := p) (len := len) (cap := cap) ht w 9999
    show (do pure (Value.bool !(← Op.equalIn (9999 + 1) t (.slice p len cap) (.slice none 0 0))) : Sem Value).run P w = _
    rw [Sem.run_bind, this]; rfl
end

theorem q_cap {x : Operand} {t e : TypeId} {p : Option Addr} {len cap : Nat} {c : Call} (hc : c = ⟨.builtin .cap, #[x], #[t]⟩) (ht : P.underlying t = some (.slice e)) (hx : ev l x = some (.slice p len cap)) : QOp P n (.call c) ty l σ (.int .i64 cap) := .mk fun a w ha _ _ _ _ _ => by
  subst hc
  simp [execOp, resolve, invoke, builtin, ha.eval hx, Builtin.cap_, run_underlying ht, goInt]
/-- Zeroes, appended to nothing. -/
theorem e_appendZ {c : Call} {x y : Operand} {t u e : TypeId} {kd k1 : IntKind} {m by_ k : Nat} {z : Array Value} (hc : c = ⟨.builtin .append, #[x, y], #[t, u]⟩)
    (ht : P.underlying t = some (.slice e)) (hu : P.underlying u = some (.int kd)) (hsb : sizeBytes P e = some (m, by_)) (hz : zeroOf P e = some z) (hzm : z.size = m) (hx : ev l x = some (.slice none 0 0)) (hy : ev l y = some (.int k1 (k : Int)))
    (hk : 0 < k) (hm0 : 0 < m) (hB : k * by_ ≤ 140737488355328) (hL : k ≤ 4611686018427387904)
    (h : ∀ b N τ cs, k ≤ N → New σ b (.cells cs e (0, 0)) τ → N * m ≤ cs.size → K (.slice (some ⟨b, 0, none⟩) k N) τ) : EOp P n (.call c) ty l σ K := .mk fun a w ha hw dst pos af g => by
  subst hc
  obtain ⟨d, hd, hdm⟩ : ∃ d, P.info? e = some d ∧ (d.size, d.bytes) = (m, by_) := by
    unfold sizeBytes at hsb
    exact Option.map_eq_some_iff.1 hsb
  simp only [Prod.mk.injEq] at hdm
  obtain ⟨hm, rfl⟩ := hdm
  have e0 : ∀ r : Result Value, (Builtin.append_ #[t, u] ty #[.slice none 0 0, .int k1 (k : Int)]).run P w = r → (execOp a.eval ⟨dst, .call ⟨.builtin .append, #[x, y], #[t, u]⟩, ty, pos, af, g⟩).run P w = r.andThen fun v w' => .ok (.value v) w' := by
    intro r hr
    simp [execOp, resolve, invoke, builtin, ha.eval hx, ha.eval hy, hr]
  obtain ⟨zv, hz1, hz2⟩ := zeroOf_run hz { w with drawn := w.drawn + 1 }
  have hwr : IntKind.i64.wrap (k : Int) = (k : Int) := wrap64 (by omega)
  have hneg : ¬ ((k : Int) < 0) := by omega
  have hbig : ¬ ((281474976710656 : Int) < (k : Int) * (d.bytes : Int)) := by
    have h1 : ((k * d.bytes : Nat) : Int) ≤ ((140737488355328 : Nat) : Int) := Int.ofNat_le.2 hB
    rw [Int.natCast_mul] at h1
    omega
  have hneed : ¬ (9223372036854775807 : Int) < (k : Int) := by omega
  have hroom : ¬ k ≤ 0 := by omega
  have h48 : ¬ (281474976710656 : Nat) < Builtin.nextslicecap k 0 * d.bytes := by
    have := growslice_fits (need := k) (old := 0) (bytes := d.bytes) (by omega) hB; omega
  have hkm : ¬ (k * m = 0) := by
    have := Nat.mul_pos hk hm0; omega
  generalize hN : (Question.appendCap k 0 e).cut (w.tape w.drawn (Question.appendCap k 0 e)) = N
  have hNle : k ≤ N := by rw [← hN]; simp [Question.cut]
  have hz' : (zeroValue e).run P w.drew = .ok zv w.drew := hz1
  have hrun : (Builtin.append_ #[t, u] ty #[.slice none 0 0, .int k1 (k : Int)]).run P w = .ok (.slice (some ⟨w.heap.size, 0, none⟩) k N)
      (w.drew.alloc (.cells (Builtin.zeroCells z k ++ Builtin.zeroCells z (N - k)) e)) := by
    have hold : (Builtin.firstCells m 0 (.slice none 0 0)).run P w.drew = .ok #[] w.drew := rfl
    have hk0 : k ≠ 0 := by omega
    have hm00 : m ≠ 0 := by omega
    simp [Builtin.append_, run_underlying ht, run_underlying hu, sizeOf, typeInfo, program, Sem.run, hd, hm, asInt, asIntOf, hwr, hneg, hbig, hroom, hneed, h48, choose, Question.forced, hN, askRoom, mark, hold, hz', hz2, newRow, newObj, hkm, hk0, hm00]
  rw [e0 _ hrun]
  refine ⟨_, (Sat.drew hw).push _, h _ N _ _ hNle (New.upd _ (Sat.fresh hw)) ?_⟩
  have hsz : ∀ j, (Builtin.zeroCells z j).size = j * m := fun j => by simp [Builtin.zeroCells, hzm]
  rw [Array.size_append, hsz, hsz, ← Nat.add_mul]
  have : k + (N - k) = N := by omega
  rw [this]; exact Nat.le_refl _
end
end Go.Gw
