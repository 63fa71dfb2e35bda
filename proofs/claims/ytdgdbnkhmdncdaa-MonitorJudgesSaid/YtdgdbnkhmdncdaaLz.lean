/- The plain law: of any row of events the monitor says what the judge says. -/
import Derived.Test.YtdgdbnkhmdncdaaPl5
set_option linter.unusedSectionVars false
set_option linter.unusedSimpArgs false
set_option linter.unusedVariables false
namespace Go.Cs
open Go Go.Gw
variable [Env]
def RelL (L : List (Nat × Ev)) (es : List Ev) : Prop := L.map (fun x => x.2.core) = es.map Ev.core
theorem RelL.take {L : List (Nat × Ev)} {es : List Ev} (h : RelL L es) (n : Nat) : RelL (L.take n) (es.take n) := by
  unfold RelL at h ⊢; rw [List.map_take, List.map_take, h]
theorem RelL.snoc {L : List (Nat × Ev)} {es : List Ev} {i : Nat} {e : Ev} (h : RelL L (es.take i)) (hi : es[i]? = some e) (n k : Nat) (q : Option Addr) : RelL (L ++ [(n, e.at_ q k)]) (es.take (i + 1)) := by
  unfold RelL at h ⊢
  rw [List.map_append, h, List.take_add_one, hi, List.map_append]; rfl
theorem Cor.tick {es : List Ev} {M : MTr} {J : JTr} (C : Cor es M J) : Cor es M.tick J := ⟨C.live, C.now, C.len, C.st, C.nw, C.memb, C.sends, C.seen, C.b2, C.b3, C.b4, C.b5, C.b6⟩
theorem Cor.mark {es : List Ev} {M : MTr} {J : JTr} (C : Cor es M J) : Cor es M.mark J := by
  obtain ⟨a, b, c, d, f, g, h⟩ := mark_same M
  refine ⟨by rw [c]; exact C.live, by rw [d]; exact C.now, by rw [b]; exact C.len, by rw [b]; exact C.st, by rw [b, d]; exact C.nw, fun k => ?_, by rw [f]; exact C.sends, by rw [g]; exact C.seen, by rw [a]; exact C.b2, by rw [a, b]; exact C.b3, by rw [a, b]; exact C.b4, by rw [a, b]; exact C.b5, by rw [a, b]; exact C.b6⟩
  have := C.memb k
  unfold MembOk at this ⊢
  rw [h, b]; exact this
theorem cor_init : Cor [] MTr.init JTr.init := ⟨rfl, rfl, rfl, fun i m j h => (by cases h), fun p k h => (by cases h), fun c => (by unfold MembOk; intro o ho; cases ho), fun _ => rfl, fun _ => rfl, rfl, rfl, rfl, rfl, rfl⟩
theorem cor_step {es : List Ev} {M : MTr} {J : JTr} {x e : Ev} (C : Cor es M J) (h1 : M.bad 1 = false) (h1' : J.bad 1 = false) (hx : EvEq x e) (n i : Nat) : (M.main n x).bad 1 = (J.step i e).bad 1 ∧ ((M.main n x).bad 1 = false → Cor (es ++ [e]) (M.main n x) (J.step i e)) := by
  have hk := hx.kind
  by_cases k5 : e.kind = 5
  · rw [main_life (.inl (by omega)), step_start k5]
    exact ⟨h1.trans h1'.symm, fun _ => cor_life C hx (.inl k5) true (by simpa using k5)⟩
  by_cases k6 : e.kind = 6
  · rw [main_life (.inr (by omega)), step_stop k6]
    exact ⟨h1.trans h1'.symm, fun _ => cor_life C hx (.inr k6) false (by simpa using k5)⟩
  by_cases k3 : e.kind = 3
  · rw [main_reg (by omega), step_reg k3]; exact cor_reg C h1 h1' hx k3 i
  by_cases k1 : e.kind = 1
  · rw [main_send (by omega), step_inn (.inl k1)]; exact cor_send C h1 h1' hx k1 i
  by_cases k2 : e.kind = 2
  · rw [main_deliver (by omega), step_inn (.inr (.inl k2))]; exact cor_deliver C h1 h1' hx k2 i
  by_cases k4 : e.kind = 4
  · rw [main_trans (by omega), step_inn (.inr (.inr k4))]; exact cor_trans C h1 h1' hx k4 i n
  rw [main_else (by omega) (by omega) (by omega) (by omega) (by omega) (by omega), step_upp k5 k6 k3 (by omega)]
  have hs := upp_same J i e
  exact ⟨by rw [hs.bad]; exact h1.trans h1'.symm, fun _ => cor_upp C k1 k2 hs⟩
def Inv (L : List (Nat × Ev)) (es : List Ev) : Prop := (run L).bad 1 = (through es).bad 1 ∧ ((run L).bad 1 = false → Cor es (run L) (through es))
theorem inv : ∀ (es : List Ev) (L : List (Nat × Ev)), RelL L es → Inv L es := fun es =>
  snocInd (P := fun es => ∀ L, RelL L es → Inv L es)
    (fun L h => by
      have : L = [] := List.map_eq_nil_iff.1 h
      subst this
      exact ⟨rfl, fun _ => cor_init⟩)
    (fun es e ih L h => by
      have h0 : L ≠ [] := by
        intro h0; subst h0
        have := congrArg List.length h
        simp at this
      obtain ⟨L0, y, rfl⟩ : ∃ L0 y, L = L0 ++ [y] := ⟨L.dropLast, L.getLast h0, (List.dropLast_concat_getLast h0).symm⟩
      unfold RelL at h
      rw [List.map_append, List.map_append] at h
      have hlen : (L0.map fun x => x.2.core).length = (es.map Ev.core).length := by have := congrArg List.length h; simp at this; simpa using this
      obtain ⟨ha, hb⟩ := List.append_inj h hlen
      have hy : y.2.core = e.core := by simpa using hb
      have hx := EvEq.of hy
      obtain ⟨i1, i2⟩ := ih L0 ha
      unfold Inv
      rw [run_snoc, through_snoc, add_eq]
      have hm := (mark_same ((run L0).tick.main y.1 y.2)).1
      cases hb1 : (run L0).bad 1 with
      | true =>
        have a1 : ((run L0).tick.main y.1 y.2).bad 1 = true := main_mono _ _ _ _ hb1
        have a2 : ((through es).step es.length e).bad 1 = true := (step_badq _ _ _ 1).1 (i1 ▸ hb1)
        rw [hm, a1, a2]; exact ⟨rfl, fun h => by cases h⟩
      | false =>
        obtain ⟨s1, s2⟩ := cor_step (i2 hb1).tick hb1 (i1 ▸ hb1) hx y.1 es.length
        rw [hm]
        exact ⟨s1, fun h => (s2 h).mark⟩) es
theorem through_badq (q : Int) (h1 : q ≠ 1) (h2 : q ≠ 2) (es : List Ev) : (through es).bad q = false :=
  snocInd (P := fun es => (through es).bad q = false) rfl (fun es e ih => by rw [through_snoc, (step_badq _ _ _ q).2 h1 h2]; exact ih) es
theorem least_eq {f g : Int → Bool} (h1 : f 1 = g 1) (h : f 1 = false → ∀ q : Int, 2 ≤ q → q ≤ 6 → f q = g q) : least f = least g := by
  unfold least
  rw [← h1]
  cases hf : f 1 with
  | true => rfl
  | false => rw [h hf 2 (by decide) (by decide), h hf 3 (by decide) (by decide), h hf 4 (by decide) (by decide), h hf 5 (by decide) (by decide), h hf 6 (by decide) (by decide)]
theorem judged_cor {es : List Ev} {M : MTr} (C : Cor es M (through es)) (q : Int) (h2 : 2 ≤ q) (h6 : q ≤ 6) : M.bad q = judged es q := by
  have z := through_badq q (by omega)
  unfold judged
  obtain rfl | rfl | rfl | rfl | rfl : q = 2 ∨ q = 3 ∨ q = 4 ∨ q = 5 ∨ q = 6 := by omega
  · rw [C.b2]; simp
  · rw [z (by decide), C.b3]
    have : (M.stays.any fun s => ordC (s.all.map Msg.core)) = once3 (through es).stays (through es).stays.length := by
      unfold once3; rw [List.take_length]
      exact any_rel C.len fun i m j hm hj => by rw [ordB_core, (C.st i m j hm hj).all]
    rw [this]; simp
  · rw [z (by decide), C.b4]
    have : (M.stays.any fun s => depsC (s.all.map Msg.core)) = once4 (through es).stays (through es).stays.length := by
      unfold once4; rw [List.take_length]
      exact any_rel C.len fun i m j hm hj => by rw [depsB_core, (C.st i m j hm hj).all]
    rw [this]; simp
  · rw [z (by decide), C.b5, tog5_all]
    have : any2 Pm M.stays = any2 pairB (through es).stays := by
      unfold any2
      exact any_rel C.len fun i m j hm hj => any_rel C.len fun i' m' j' hm' hj' => (pairB_rel (C.st i m j hm hj) (C.st i' m' j' hm' hj')).symm
    rw [this]; simp
  · rw [z (by decide), C.b6, tog6_all]
    have : any2 Qm M.stays = any2 safeOn (through es).stays := by
      unfold any2
      exact any_rel C.len fun i m j hm hj => any_rel C.len fun i' m' j' hm' hj' => (safeOn_rel (C.st i m j hm hj) (C.st i' m' j' hm' hj')).symm
    rw [this]; simp
theorem law_bad {L : List (Nat × Ev)} {es : List Ev} (h : RelL L es) : least (run L).bad = evsOf es := by
  obtain ⟨h1, h2⟩ := inv es L h
  refine least_eq ?_ fun hf q a b => judged_cor (h2 hf) q a b
  rw [h1]; unfold judged; simp

/-! ### When it was broken first -/
theorem least_mono {f g : Int → Bool} (h : ∀ q, f q = true → g q = true) (hf : least f ≠ 0) : least g ≠ 0 := by
  intro hg
  have g0 : ∀ q : Int, 1 ≤ q → q ≤ 6 → g q = false := by
    intro q a b
    unfold least at hg
    obtain rfl | rfl | rfl | rfl | rfl | rfl : q = 1 ∨ q = 2 ∨ q = 3 ∨ q = 4 ∨ q = 5 ∨ q = 6 := by omega
    all_goals (repeat' split at hg) <;> simp_all
  have f0 : ∀ q : Int, 1 ≤ q → q ≤ 6 → f q = false := fun q a b => by
    cases hq : f q with
    | false => rfl
    | true => have := h q hq; rw [g0 q a b] at this; cases this
  apply hf
  unfold least
  rw [f0 1 (by decide) (by decide), f0 2 (by decide) (by decide), f0 3 (by decide) (by decide), f0 4 (by decide) (by decide), f0 5 (by decide) (by decide), f0 6 (by decide) (by decide)]; rfl
theorem least_nonneg (f : Int → Bool) : 0 ≤ least f := by
  unfold least
  repeat' split
  all_goals decide
theorem add_bad (M : MTr) (n : Nat) (x : Ev) : (M.add n x).bad = (M.tick.main n x).bad := by rw [add_eq]; exact (mark_same _).1
theorem add_first (M : MTr) (n : Nat) (x : Ev) : (M.add n x).at_ = (if decide (least (M.add n x).bad > 0) && M.at_ == 0 then M.len + 1 else M.at_) ∧ (M.add n x).rule = if decide (least (M.add n x).bad > 0) && M.at_ == 0 then least (M.add n x).bad else M.rule := by
  rw [add_bad]
  obtain ⟨a, b, c⟩ := main_len M.tick n x
  have hc : (decide (least (M.tick.main n x).bad > 0) && (M.tick.main n x).at_ == 0) = (decide (least (M.tick.main n x).bad > 0) && M.at_ == 0) := by rw [b]; rfl
  rw [← hc, add_eq]
  cases h : (decide (least (M.tick.main n x).bad > 0) && (M.tick.main n x).at_ == 0) with
  | true => rw [mark_T h]; exact ⟨a, rfl⟩
  | false => rw [mark_F h]; exact ⟨b, c⟩
theorem law_first : ∀ L : List (Nat × Ev), ((run L).at_ = 0 ∧ least (run L).bad = 0) ∨ ∃ n : Nat, 1 ≤ n ∧ n ≤ L.length ∧ (run L).at_ = n ∧ (run L).rule = least (run (L.take n)).bad ∧ least (run (L.take (n - 1))).bad = 0 ∧ least (run L).bad ≠ 0 := fun L =>
  snocInd (P := fun L => ((run L).at_ = 0 ∧ least (run L).bad = 0) ∨ ∃ n : Nat, 1 ≤ n ∧ n ≤ L.length ∧ (run L).at_ = n ∧ (run L).rule = least (run (L.take n)).bad ∧ least (run (L.take (n - 1))).bad = 0 ∧ least (run L).bad ≠ 0)
    (.inl ⟨rfl, rfl⟩)
    (fun L x ih => by
      rw [run_snoc]
      obtain ⟨f1, f2⟩ := add_first (run L) x.1 x.2
      have hnn := least_nonneg ((run L).add x.1 x.2).bad
      rcases ih with ⟨h1, h2⟩ | ⟨n, h1, h2, h3, h4, h5, h6⟩
      · by_cases hz : least ((run L).add x.1 x.2).bad = 0
        · refine .inl ⟨?_, hz⟩
          rw [f1, hz, h1]; rfl
        · have hc : (decide (least ((run L).add x.1 x.2).bad > 0) && (run L).at_ == 0) = true := by rw [h1]; simp; omega
          refine .inr ⟨L.length + 1, by omega, by simp, ?_, ?_, ?_, hz⟩
          · rw [f1, if_pos hc, run_len]; simp
          · rw [f2, if_pos hc, List.take_of_length_le (by simp), run_snoc]
          · rw [Nat.add_sub_cancel, List.take_left']
            · exact h2
            · rfl
      · have hc : (decide (least ((run L).add x.1 x.2).bad > 0) && (run L).at_ == 0) = false := by
          have : ((run L).at_ == 0) = false := by rw [h3]; simp; omega
          rw [this]; simp
        refine .inr ⟨n, h1, by simp; omega, ?_, ?_, ?_, ?_⟩
        · rw [f1, if_neg (by rw [hc]; simp)]; exact h3
        · rw [f2, if_neg (by rw [hc]; simp), List.take_append_of_le_length h2]; exact h4
        · rw [List.take_append_of_le_length (by omega)]; exact h5
        · exact least_mono (fun q hq => by rw [add_bad]; exact main_mono _ _ _ _ hq) h6) L
end Go.Cs
