/- Laws on the monitor's step. -/
import Derived.Test.YtdgdbnkhmdncdaaMl
set_option linter.unusedSectionVars false
set_option linter.unusedSimpArgs false
set_option linter.unusedVariables false
namespace Go.Cs
open Go Go.Gw
variable [Env]
section
variable {ρ : Heap} {T : TypeId} {bs : List Nat} {M : MTr} {sl : List (Who × Value)} {ml : List (Conf × Value)} {lal nal : List (Int × Value)} {N : Nat}
def MTr.tick (M : MTr) : MTr := { M with len := M.len + 1 }
theorem MIs.tick (h : MIs ρ T bs M sl ml lal nal N) : MIs ρ T bs M.tick sl ml lal nal N := ⟨h.len, h.seen, h.memb, h.live, h.now, h.wf, h.sends, h.few⟩
theorem MIs.mark (h : MIs ρ T bs M sl ml lal nal N) : MIs ρ T bs M.mark sl ml lal nal N := by
  unfold MTr.mark; split
  · exact ⟨h.len, h.seen, h.memb, h.live, h.now, h.wf, h.sends, h.few⟩
  · exact h
theorem mark_T (h : (decide (least M.bad > 0) && M.at_ == 0) = true) : M.mark = { M with at_ := M.len, rule := least M.bad } := by unfold MTr.mark; rw [if_pos h]
theorem mark_F (h : (decide (least M.bad > 0) && M.at_ == 0) = false) : M.mark = M := by unfold MTr.mark; rw [if_neg (by rw [h]; simp)]
theorem mtrans_none {n : Nat} {e : Ev} (h : M.stayAt e = none) : (M.trans n e).stays = M.stays ∧ ∀ q, (M.trans n e).bad q = (M.bad q || (q == 1 && true)) := by
  unfold MTr.trans; simp only [h]; exact ⟨rfl, fun q => rfl⟩
theorem mtrans_some {n : Nat} {e : Ev} {k : Nat} {s : MSt} (h : M.stayAt e = some (k, s)) : (M.trans n e).stays = M.stays.set k { s with trans := some (n, e) } ∧ ∀ q, (M.trans n e).bad q = (M.bad q || (q == 1 && s.trans.isSome)) := by
  unfold MTr.trans; simp only [h]; exact ⟨by first | rfl | trivial, fun q => by first | rfl | trivial⟩
theorem mtrans_rest (M : MTr) (n : Nat) (e : Ev) : (M.trans n e).sends = M.sends ∧ (M.trans n e).seen = M.seen ∧ (M.trans n e).members = M.members ∧ (M.trans n e).live = M.live ∧ (M.trans n e).now = M.now ∧ (M.trans n e).len = M.len ∧ (M.trans n e).at_ = M.at_ ∧ (M.trans n e).rule = M.rule := by
  unfold MTr.trans
  cases M.stayAt e with
  | none => refine ⟨?_, ?_, ?_, ?_, ?_, ?_, ?_, ?_⟩ <;> first | rfl | trivial
  | some x => refine ⟨?_, ?_, ?_, ?_, ?_, ?_, ?_, ?_⟩ <;> first | rfl | trivial
theorem MIs.trans (h : MIs ρ T bs M sl ml lal nal N) {n : Nat} {e : Ev} (hn : ρ n = some (.cells e.arr T (0, 0))) : MIs ρ T bs (M.trans n e) sl ml lal nal (N + 1) := by
  obtain ⟨r1, r2, r3, r4, r5, _⟩ := mtrans_rest M n e
  have hs : (M.trans n e).stays.length = M.stays.length ∧ ∀ s ∈ (M.trans n e).stays, s.wf ρ T (N + 1) := by
    cases hs : M.stayAt e with
    | none => rw [(mtrans_none hs).1]; exact ⟨rfl, fun s hs => (h.wf s hs).up (Sub.rfl' _) (by omega)⟩
    | some x =>
      obtain ⟨k, s⟩ := x
      obtain ⟨k', s', bk, h1, h2, h3⟩ := stay_get h e (by rw [hs]; rfl)
      rw [hs] at h1; cases h1
      rw [(mtrans_some hs).1]
      refine ⟨by simp, fun y hy => ?_⟩
      rcases List.mem_or_eq_of_mem_set hy with h4 | h4
      · exact (h.wf y h4).up (Sub.rfl' _) (by omega)
      · subst h4
        have h5 := h.wf s (List.mem_of_getElem? h2)
        refine ⟨fun b x hx => ?_, h5.ok0, h5.ok1, by have := h5.few; simp only []; omega⟩
        simp only [Option.some.injEq, Prod.mk.injEq] at hx
        obtain ⟨rfl, rfl⟩ := hx; exact hn
  exact ⟨by rw [hs.1]; exact h.len, by rw [r2]; exact h.seen, by rw [r3]; exact h.memb, by rw [r4]; exact h.live, by rw [r5]; exact h.now, hs.2, fun k => by rw [r1]; have := h.sends k; exact ⟨by omega, this.2⟩, by rw [hs.1]; have := h.few; omega⟩
theorem MIs.life (h : MIs ρ T bs M sl ml lal nal N) (hd : (nal.map (·.1)).Nodup) (e : Ev) : MIs ρ T bs (M.life e) sl ml (Gw.put lal e.proc (.bool (e.kind == 5))) (Gw.del nal e.proc) (N + 1) :=
  ⟨h.len, h.seen, h.memb, h.live.put e.proc _, h.now.del hd e.proc, fun s hs => (h.wf s hs).up (Sub.rfl' _) (by omega), fun k => by have := h.sends k; exact ⟨Nat.le_succ_of_le this.1, this.2⟩, by have := h.few; show M.stays.length ≤ N + 1; omega⟩
theorem main_life {n : Nat} {e : Ev} (h : e.kind = 5 ∨ e.kind = 6) : M.main n e = M.life e := by unfold MTr.main; rw [if_pos h]
theorem main_reg {n : Nat} {e : Ev} (h : e.kind = 3) : M.main n e = M.reg e := by unfold MTr.main; rw [if_neg (by omega), if_pos h]
theorem main_send {n : Nat} {e : Ev} (h : e.kind = 1) : M.main n e = M.send e := by unfold MTr.main; rw [if_neg (by omega), if_neg (by omega), if_pos h]
theorem main_deliver {n : Nat} {e : Ev} (h : e.kind = 2) : M.main n e = M.deliver e := by unfold MTr.main; rw [if_neg (by omega), if_neg (by omega), if_neg (by omega), if_pos h]
theorem main_trans {n : Nat} {e : Ev} (h : e.kind = 4) : M.main n e = M.trans n e := by unfold MTr.main; rw [if_neg (by omega), if_neg (by omega), if_neg (by omega), if_neg (by omega), if_pos h]
theorem main_else {n : Nat} {e : Ev} (h5 : ¬ e.kind = 5) (h6 : ¬ e.kind = 6) (h3 : ¬ e.kind = 3) (h1 : ¬ e.kind = 1) (h2 : ¬ e.kind = 2) (h4 : ¬ e.kind = 4) : M.main n e = M := by unfold MTr.main; rw [if_neg (by omega), if_neg h3, if_neg h1, if_neg h2, if_neg h4]
theorem main_len (M : MTr) (n : Nat) (e : Ev) : (M.main n e).len = M.len ∧ (M.main n e).at_ = M.at_ ∧ (M.main n e).rule = M.rule := by
  unfold MTr.main
  split
  · exact ⟨rfl, rfl, rfl⟩
  split
  · obtain ⟨_, _, _, _, _, a, b, c⟩ := mreg_rest M e; exact ⟨a, b, c⟩
  split
  · obtain ⟨_, _, _, _, _, a, b, c, _⟩ := msend_rest M e; exact ⟨a, b, c⟩
  split
  · obtain ⟨_, _, _, _, _, a, b, c⟩ := mdeliver_rest M e; exact ⟨a, b, c⟩
  split
  · obtain ⟨_, _, _, _, _, a, b, c⟩ := mtrans_rest M n e; exact ⟨a, b, c⟩
  exact ⟨rfl, rfl, rfl⟩
end
/-- An event with the Deps of its message at another place. -/
def Ev.at_ (e : Ev) (q : Option Addr) (k : Nat) : Ev := { e with m := { e.m with dp := q, dc := k } }
theorem add_eq (M : MTr) (n : Nat) (e : Ev) : M.add n e = (M.tick.main n e).mark := rfl
end Go.Cs
