/- The plain law, third part: what the judge's step leaves as it is. -/
import Derived.Test.YtdgdbnkhmdncdaaPl2
set_option linter.unusedSectionVars false
set_option linter.unusedSimpArgs false
set_option linter.unusedVariables false
namespace Go.Cs
open Go Go.Gw
variable [Env]
structure JEq (a b : JSt) : Prop where
  proc : a.proc = b.proc
  conf : a.conf = b.conf
  mem : a.mem = b.mem
  gots : a.gots = b.gots
  trans : a.trans = b.trans
  next : a.next = b.next
theorem JEq.rfl' (a : JSt) : JEq a a := ⟨rfl, rfl, rfl, rfl, rfl, rfl⟩
theorem StRel.to {m : MSt} {j j' : JSt} (h : StRel m j) (e : JEq j j') : StRel m j' := by
  have hp : ∀ t, partOf j t = partOf j' t := fun t => by unfold partOf; rw [e.gots]
  exact ⟨by rw [← e.proc]; exact h.proc, by rw [← e.conf]; exact h.conf, by rw [← e.mem]; exact h.mem, by rw [← e.next]; exact h.went, by rw [← e.trans]; exact h.tr, by rw [← e.trans]; exact h.tnew, by rw [← e.trans]; exact h.tmem, by rw [← hp]; exact h.p0, by rw [← hp]; exact h.p1, by rw [← e.gots]; exact h.all, h.late⟩
/-- What the rules of Evs rest on is as it was. -/
structure JSame (J J' : JTr) : Prop where
  bad : J'.bad = J.bad
  live : J'.live = J.live
  now : J'.now = J.now
  len : J'.stays.length = J.stays.length
  st : ∀ (i : Nat) (a b : JSt), J.stays[i]? = some a → J'.stays[i]? = some b → JEq a b
theorem JSame.rfl' (J : JTr) : JSame J J := ⟨rfl, rfl, rfl, rfl, fun i a b ha hb => by rw [ha] at hb; cases hb; exact JEq.rfl' a⟩
theorem JSame.wrong (J : JTr) (r : Int) (is : Bool) : JSame J (J.wrong r is) := ⟨rfl, rfl, rfl, rfl, fun i a b ha hb => by rw [show (J.wrong r is).stays = J.stays from rfl, ha] at hb; cases hb; exact JEq.rfl' a⟩
theorem JSame.mod {J J' : JTr} (h : JSame J J') (k : Nat) (g : JSt → JSt) (hg : ∀ s, JEq s (g s)) : JSame J (J'.mod k g) := by
  refine ⟨h.bad, h.live, h.now, by simp [JTr.mod, h.len], fun i a b ha hb => ?_⟩
  simp only [JTr.mod] at hb
  rw [List.getElem?_modify] at hb
  cases hj : J'.stays[i]? with
  | none => rw [hj] at hb; cases hb
  | some c =>
    rw [hj] at hb
    have h1 := h.st i a c ha hj
    by_cases e : k = i
    · simp [e] at hb
      have h2 := hg c
      rw [hb] at h2
      exact ⟨h1.proc.trans h2.proc, h1.conf.trans h2.conf, h1.mem.trans h2.mem, h1.gots.trans h2.gots, h1.trans.trans h2.trans, h1.next.trans h2.next⟩
    · simp [e] at hb; subst hb; exact h1
theorem mineOn_same (J : JTr) (k : Nat) (s : JSt) (i : Nat) (e : Ev) : JSame J (J.mineOn k s i e) := by
  unfold JTr.mineOn
  repeat' split
  · exact JSame.wrong _ _ _
  · exact (JSame.wrong _ _ _).mod _ _ fun s => ⟨rfl, rfl, rfl, rfl, rfl, rfl⟩
  · exact JSame.wrong _ _ _
  · exact (JSame.wrong _ _ _).mod _ _ fun s => ⟨rfl, rfl, rfl, rfl, rfl, rfl⟩
  · exact (JSame.rfl' _).mod _ _ fun s => ⟨rfl, rfl, rfl, rfl, rfl, rfl⟩
  · exact JSame.rfl' _
theorem mine_same (J : JTr) (i : Nat) (e : Ev) : JSame J (J.mine i e) := by
  unfold JTr.mine
  cases h1 : J.now e.proc with
  | none => exact JSame.wrong _ _ _
  | some k0 => cases h2 : J.stays[k0]? with
    | none => simp only [h2]; exact JSame.rfl' _
    | some s0 =>
      simp only [h2]
      generalize (if late e s0 = true then s0.before else some k0) = kk
      cases kk with
      | none => exact JSame.rfl' _
      | some k => cases h3 : J.stays[k]? with
        | none => simp only [h3]; exact JSame.rfl' _
        | some s => simp only [h3]; exact mineOn_same _ _ _ _ _
theorem upp_same (J : JTr) (i : Nat) (e : Ev) : JSame J (J.upp i e) := by
  unfold JTr.upp
  split
  · cases J.now e.proc with
    | none => exact JSame.rfl' _
    | some k => exact (JSame.rfl' _).mod _ _ fun s => ⟨rfl, rfl, rfl, rfl, rfl, rfl⟩
  · split
    · exact mine_same _ _ _
    · exact JSame.rfl' _
theorem reg_bad (J : JTr) (i : Nat) (e : Ev) (q : Int) : (J.bad q = true → (J.reg i e).bad q = true) ∧ (q ≠ 1 → (J.reg i e).bad q = J.bad q) := by
  unfold JTr.reg
  cases J.now e.proc with
  | none => exact ⟨fun h => by simp [JTr.brk, h], fun h => by have hq := beq_false_of_ne h; simp [JTr.brk, hq]⟩
  | some k => cases hb : J.stays[k]? with
    | none => simp only [hb]; exact ⟨fun h => by simp [JTr.brk, h], fun h => by have hq := beq_false_of_ne h; simp [JTr.brk, hq]⟩
    | some b => simp only [hb]; exact ⟨fun h => by simp [JTr.brk, JTr.mod, h], fun h => by have hq := beq_false_of_ne h; simp [JTr.brk, JTr.mod, hq]⟩
theorem inn_badq (J : JTr) (i : Nat) (e : Ev) (q : Int) : (J.bad q = true → (J.inn i e).bad q = true) ∧ (q ≠ 1 → q ≠ 2 → (J.inn i e).bad q = J.bad q) := by
  unfold JTr.inn
  cases J.now e.proc with
  | none => exact ⟨fun h => by simp [JTr.brk, h], fun h h2 => by have hq := beq_false_of_ne h; simp [JTr.brk, hq]⟩
  | some k => cases hb : J.stays[k]? with
    | none => simp only [hb]; exact ⟨fun h => by simp [JTr.brk, h], fun h h2 => by have hq := beq_false_of_ne h; simp [JTr.brk, hq]⟩
    | some b =>
      simp only [hb]
      refine ⟨fun h => ?_, fun h h2 => ?_⟩
      · repeat' split
        all_goals simp [JTr.brk, JTr.mod, h]
      · have hq := beq_false_of_ne h
        have hq2 := beq_false_of_ne h2
        repeat' split
        all_goals simp [JTr.brk, JTr.mod, hq, hq2]
theorem step_badq (J : JTr) (i : Nat) (e : Ev) (q : Int) : (J.bad q = true → (J.step i e).bad q = true) ∧ (q ≠ 1 → q ≠ 2 → (J.step i e).bad q = J.bad q) := by
  unfold JTr.step
  split
  · exact ⟨fun h => h, fun _ _ => rfl⟩
  split
  · exact ⟨fun h => h, fun _ _ => rfl⟩
  split
  · exact ⟨(reg_bad J i e q).1, fun h _ => (reg_bad J i e q).2 h⟩
  split
  · exact inn_badq J i e q
  · rw [(upp_same J i e).bad]; exact ⟨fun h => h, fun _ _ => rfl⟩
theorem main_mono (M : MTr) (n : Nat) (e : Ev) (q : Int) (h : M.bad q = true) : (M.main n e).bad q = true := by
  unfold MTr.main
  split
  · exact h
  split
  · cases hn : M.now e.proc with
    | none => rw [(mreg_none hn).2 q, h]; simp
    | some k => cases hb : M.stays[k]? with
      | none => unfold MTr.reg; simp only [hn, hb]; simp [MTr.brk, h]
      | some b => rw [(mreg_some hn hb).2 q, h]; simp
  split
  · rw [msend_bad, h]; rfl
  split
  · cases hs : M.stayAt e with
    | none => rw [(mdeliver_none hs).2 q, dlvBad, h]; simp
    | some x => obtain ⟨k, s⟩ := x; rw [(mdeliver_some hs).2 q, dlvBad, h]; simp
  split
  · cases hs : M.stayAt e with
    | none => rw [(mtrans_none hs).2 q, h]; rfl
    | some x => obtain ⟨k, s⟩ := x; rw [(mtrans_some hs).2 q, h]; rfl
  · exact h
theorem mark_same (M : MTr) : M.mark.bad = M.bad ∧ M.mark.stays = M.stays ∧ M.mark.live = M.live ∧ M.mark.now = M.now ∧ M.mark.sends = M.sends ∧ M.mark.seen = M.seen ∧ M.mark.members = M.members := by
  unfold MTr.mark; split <;> exact ⟨rfl, rfl, rfl, rfl, rfl, rfl, rfl⟩
end Go.Cs
