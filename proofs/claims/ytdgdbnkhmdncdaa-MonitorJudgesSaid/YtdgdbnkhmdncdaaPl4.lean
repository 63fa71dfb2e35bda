/- The plain law, fourth part: step by step the monitor keeps what the judge keeps, unless the first rule is broken. -/
import Derived.Test.YtdgdbnkhmdncdaaPl3
set_option linter.unusedSectionVars false
set_option linter.unusedSimpArgs false
set_option linter.unusedVariables false
namespace Go.Cs
open Go Go.Gw
variable [Env]
def MembOk (M : MTr) (c : Conf) : Prop := match M.members c with
  | none => ∀ o ∈ M.stays, o.conf ≠ c
  | some x => (∃ o ∈ M.stays, o.conf = c) ∧ ∀ o ∈ M.stays, o.conf = c → o.mem = x
structure Cor (es : List Ev) (M : MTr) (J : JTr) : Prop where
  live : M.live = J.live
  now : M.now = J.now
  len : M.stays.length = J.stays.length
  st : ∀ (i : Nat) (m : MSt) (j : JSt), M.stays[i]? = some m → J.stays[i]? = some j → StRel m j
  nw : ∀ (p : Int) (k : Nat), M.now p = some k → ∃ s, M.stays[k]? = some s ∧ s.went = false ∧ s.proc = p
  memb : ∀ c, MembOk M c
  sends : ∀ k, (M.sends k).map Msg.core = sentC es k
  seen : ∀ w, M.seen w = seenC es w
  b2 : M.bad 2 = (J.bad 2 || behindB es es.length)
  b3 : M.bad 3 = (onceB es es.length || M.stays.any fun s => ordC (s.all.map Msg.core))
  b4 : M.bad 4 = M.stays.any fun s => depsC (s.all.map Msg.core)
  b5 : M.bad 5 = any2 Pm M.stays
  b6 : M.bad 6 = any2 Qm M.stays
theorem Cor.jst {es : List Ev} {M : MTr} {J : JTr} (C : Cor es M J) {k : Nat} {m : MSt} (h : M.stays[k]? = some m) : ∃ j, J.stays[k]? = some j ∧ StRel m j := by
  have hlt : k < J.stays.length := by rw [← C.len]; exact (List.getElem?_eq_some_iff.1 h).1
  exact ⟨_, List.getElem?_eq_getElem hlt, C.st k m _ h (List.getElem?_eq_getElem hlt)⟩
/-- Two events say the same. -/
structure EvEq (x e : Ev) : Prop where
  kind : x.kind = e.kind
  proc : x.proc = e.proc
  conf : x.conf = e.conf
  new : x.new = e.new
  mem : x.mem = e.mem
  m : x.m.core = e.m.core
theorem EvEq.of {x e : Ev} (h : x.core = e.core) : EvEq x e := by
  simp only [Ev.core, Prod.mk.injEq] at h
  exact ⟨h.1, h.2.1, h.2.2.1, h.2.2.2.1, h.2.2.2.2.1, h.2.2.2.2.2⟩
theorem EvEq.frm {x e : Ev} (h : EvEq x e) : x.m.frm = e.m.frm := congrArg (·.1) h.m
theorem EvEq.sent {x e : Ev} (h : EvEq x e) : evSent x = evSent e := by
  have h2 : x.m.seq = e.m.seq := congrArg (fun c : Core => c.2.1) h.m
  simp only [evSent, sentOf, h.conf, h.frm, h2]
theorem EvEq.who {x e : Ev} (h : EvEq x e) : evWho x = evWho e := by simp only [evWho, h.proc, h.sent]
theorem sentC_snoc (es : List Ev) (e : Ev) (k : Sent) : sentC (es ++ [e]) k = sentC es k ++ if isSend e = true ∧ k = evSent e then [e.m.core] else [] := by
  unfold sentC
  rw [List.filter_append, List.map_append]
  congr 1
  by_cases h : isSend e = true
  · by_cases hk : k = evSent e
    · subst hk; simp [h]
    · have : (evSent e == k) = false := by simp; exact fun q => hk q.symm
      simp [h, hk, this]
  · simp [h]
theorem sentC_quiet {es : List Ev} {e : Ev} (h : ¬ e.kind = 1) (k : Sent) : sentC (es ++ [e]) k = sentC es k := by
  have : isSend e = false := by unfold isSend; rw [show (e.kind == 1) = false from by simpa using h]; rfl
  rw [sentC_snoc, this]; simp
theorem seenC_snoc (es : List Ev) (e : Ev) (w : Who) : seenC (es ++ [e]) w = (seenC es w || (e.kind == 2 && evWho e == w)) := by
  unfold seenC; rw [List.any_append]; simp
theorem seenC_quiet {es : List Ev} {e : Ev} (h : ¬ e.kind = 2) (w : Who) : seenC (es ++ [e]) w = seenC es w := by
  rw [seenC_snoc, show (e.kind == 2) = false from by simpa using h]; simp
theorem behindB_quiet {es : List Ev} {e : Ev} (h : ¬ e.kind = 2) : behindB (es ++ [e]) (es ++ [e]).length = behindB es es.length := by
  rw [behindB_snoc, show (e.kind == 2) = false from by simpa using h]; simp
theorem onceB_quiet {es : List Ev} {e : Ev} (h : ¬ e.kind = 2) : onceB (es ++ [e]) (es ++ [e]).length = onceB es es.length := by
  rw [onceB_snoc, show (e.kind == 2) = false from by simpa using h]; simp
section
variable {es : List Ev} {M : MTr} {J : JTr} {x e : Ev}
theorem cor_life (C : Cor es M J) (hx : EvEq x e) (hk : e.kind = 5 ∨ e.kind = 6) (b : Bool) (hb : (e.kind == 5) = b) :
    Cor (es ++ [e]) (M.life x) { J with live := fun q => if q = e.proc then b else J.live q, now := fun q => if q = e.proc then none else J.now q } := by
  have n1 : ¬ e.kind = 1 := by omega
  have n2 : ¬ e.kind = 2 := by omega
  refine ⟨?_, ?_, C.len, C.st, ?_, C.memb, fun k => ?_, fun w => ?_, ?_, ?_, C.b4, C.b5, C.b6⟩
  · funext q; simp only [MTr.life, hx.proc, hx.kind, hb, C.live]
  · funext q; simp only [MTr.life, hx.proc, C.now]
  · intro p k hp
    simp only [MTr.life] at hp ⊢
    by_cases h : p = x.proc
    · rw [if_pos h] at hp; cases hp
    · rw [if_neg h] at hp; exact C.nw p k hp
  · rw [sentC_quiet n1]; exact C.sends k
  · rw [seenC_quiet n2]; exact C.seen w
  · rw [behindB_quiet n2]; exact C.b2
  · rw [onceB_quiet n2]; exact C.b3
theorem cor_upp (C : Cor es M J) (n1 : ¬ e.kind = 1) (n2 : ¬ e.kind = 2) {J' : JTr} (hJ : JSame J J') : Cor (es ++ [e]) M J' := by
  refine ⟨C.live.trans hJ.live.symm, C.now.trans hJ.now.symm, C.len.trans hJ.len.symm, fun i m j hm hj => ?_, C.nw, C.memb, fun k => ?_, fun w => ?_, ?_, ?_, C.b4, C.b5, C.b6⟩
  · obtain ⟨j0, h0, h1⟩ := C.jst hm
    exact h1.to (hJ.st i j0 j h0 hj)
  · rw [sentC_quiet n1]; exact C.sends k
  · rw [seenC_quiet n2]; exact C.seen w
  · rw [behindB_quiet n2, hJ.bad]; exact C.b2
  · rw [onceB_quiet n2]; exact C.b3

/-! ### The stay of an event -/
theorem valid (C : Cor es M J) (hx : EvEq x e) (i : Nat) : (M.stayAt x = none ∧ J.inn i e = J.brk 1 true) ∨ ∃ k m j, M.stayAt x = some (k, m) ∧ M.now x.proc = some k ∧ M.stays[k]? = some m ∧ J.now e.proc = some k ∧ J.stays[k]? = some j ∧ StRel m j ∧ (!J.live e.proc || j.conf != e.conf) = false := by
  cases hn : M.now x.proc with
  | none =>
    refine .inl ⟨stayAt_none hn, inn_none ?_⟩
    rw [← C.now, ← hx.proc]; exact hn
  | some k =>
    obtain ⟨m, hm, _, _⟩ := C.nw _ _ hn
    obtain ⟨j, hj, hr⟩ := C.jst hm
    have hnj : J.now e.proc = some k := by rw [← C.now, ← hx.proc]; exact hn
    have e1 : (!M.live x.proc || m.conf != x.conf) = (!J.live e.proc || j.conf != e.conf) := by rw [C.live, hx.proc, hr.conf, hx.conf]
    by_cases hb : (!J.live e.proc || j.conf != e.conf) = true
    · exact .inl ⟨stayAt_bad hn hm (e1.trans hb), inn_bad hnj hj hb⟩
    · have hb' : (!J.live e.proc || j.conf != e.conf) = false := by simpa using hb
      exact .inr ⟨k, m, j, stayAt_some hn hm (e1.trans hb'), rfl, hm, hnj, hj, hr, hb'⟩

/-! ### EvSend -/
theorem cor_send (C : Cor es M J) (h1 : M.bad 1 = false) (h1' : J.bad 1 = false) (hx : EvEq x e) (hk : e.kind = 1) (i : Nat) : (M.send x).bad 1 = (J.inn i e).bad 1 ∧ ((M.send x).bad 1 = false → Cor (es ++ [e]) (M.send x) (J.inn i e)) := by
  have n2 : ¬ e.kind = 2 := by omega
  rcases valid C hx i with ⟨hs, hj⟩ | ⟨k, m, j, hs, hn, hm, hnj, hj, hr, hb⟩
  · have a : (M.send x).bad 1 = true := by rw [msend_bad, hs]; simp
    rw [hj, a]; exact ⟨by simp [JTr.brk], fun h => by cases h⟩
  · have hJ : J.inn i e = J.brk 1 j.trans.isSome := by rw [inn_some hnj hj hb, if_pos hk]
    have a : ∀ q, (M.send x).bad q = (M.bad q || (q == 1 && m.trans.isSome)) := fun q => by rw [msend_bad, hs]
    rw [hJ]
    refine ⟨by rw [a, h1, hr.tr]; simp [JTr.brk, h1'], fun _ => ?_⟩
    obtain ⟨r1, r2, r3, r4, r5, _, _, _, r9⟩ := msend_rest M x
    refine ⟨by rw [r4]; exact C.live, by rw [r5]; exact C.now, by rw [r1]; exact C.len, fun i m j hm hj => C.st i m j (by rw [← r1]; exact hm) hj, fun p k hp => by rw [r1]; rw [r5] at hp; exact C.nw p k hp, fun c => by have := C.memb c; unfold MembOk at this ⊢; rw [r3, r1]; exact this, fun q => ?_, fun w => ?_, ?_, ?_, ?_, ?_, ?_⟩
    · rw [sentC_snoc, r9, ← C.sends q]
      have e2 : isSend e = (x.proc == x.m.frm) := by unfold isSend; rw [show (e.kind == 1) = true from by simpa using hk, hx.proc, hx.frm]; rfl
      rw [e2, hx.sent]
      by_cases hp : (x.proc == x.m.frm) = true
      · rw [if_pos hp]
        by_cases hq : q = evSent e
        · subst hq; simp [hp, hx.m]
        · simp [hq]
      · rw [if_neg hp]; simp [hp]
    · rw [r2, seenC_quiet n2]; exact C.seen w
    · rw [a, behindB_quiet n2]; simp [JTr.brk, C.b2]
    · rw [a, onceB_quiet n2, r1]; simp [C.b3]
    · rw [a, r1]; simp [C.b4]
    · rw [a, r1]; simp [C.b5]
    · rw [a, r1]; simp [C.b6]

/-! ### EvTrans -/
theorem cor_trans (C : Cor es M J) (h1 : M.bad 1 = false) (h1' : J.bad 1 = false) (hx : EvEq x e) (hk : e.kind = 4) (i n : Nat) : (M.trans n x).bad 1 = (J.inn i e).bad 1 ∧ ((M.trans n x).bad 1 = false → Cor (es ++ [e]) (M.trans n x) (J.inn i e)) := by
  have n1 : ¬ e.kind = 1 := by omega
  have n2 : ¬ e.kind = 2 := by omega
  rcases valid C hx i with ⟨hs, hj⟩ | ⟨k, m, j, hs, hn, hm, hnj, hj, hr, hb⟩
  · have a : (M.trans n x).bad 1 = true := by rw [(mtrans_none hs).2]; simp
    rw [hj, a]; exact ⟨by simp [JTr.brk], fun h => by cases h⟩
  · have hJ : J.inn i e = (J.brk 1 j.trans.isSome).mod k fun s => { s with trans := some (i, e) } := by rw [inn_some hnj hj hb, if_neg n1, if_pos hk]
    obtain ⟨t1, a⟩ := mtrans_some (n := n) hs
    have hst : ((J.brk 1 j.trans.isSome).mod k fun s => { s with trans := some (i, e) }).stays = J.stays.set k { j with trans := some (i, e) } := mod_some (J := J.brk 1 _) hj
    rw [hJ]
    refine ⟨by rw [a, h1, hr.tr]; simp [JTr.brk, JTr.mod, h1'], fun hbad => ?_⟩
    have ht : m.trans.isSome = false := by rw [a, h1] at hbad; simpa using hbad
    obtain ⟨r1, r2, r3, r4, r5, _⟩ := mtrans_rest M n x
    obtain ⟨m0, hm0, hw0, hp0⟩ := C.nw _ _ hn
    have : m0 = m := Option.some.inj (hm0.symm.trans hm)
    subst this
    have hp1 := hr.late ht
    have hall : ({ m0 with trans := some (n, x) } : MSt).all = m0.all := rfl
    refine ⟨by rw [r4]; exact C.live, by rw [r5]; exact C.now, by rw [t1, hst]; simp [C.len], fun i' m' j' hm' hj' => ?_, fun p k' hp => ?_, fun c => ?_, fun q => ?_, fun w => ?_, ?_, ?_, ?_, ?_, ?_⟩
    · rw [t1, List.getElem?_set] at hm'
      rw [hst, List.getElem?_set] at hj'
      by_cases e1 : k = i'
      · subst e1
        have l1 := (List.getElem?_eq_some_iff.1 hm).1
        have l2 := (List.getElem?_eq_some_iff.1 hj).1
        simp [l1] at hm'
        simp [l2] at hj'
        subst hm' hj'
        refine ⟨hr.proc, hr.conf, hr.mem, hr.went, rfl, hx.new, hx.mem, hr.p0, hr.p1, hr.all, fun h => by cases h⟩
      · rw [if_neg e1] at hm' hj'; exact C.st i' m' j' hm' hj'
    · rw [r5] at hp
      obtain ⟨s, h2, h3, h4⟩ := C.nw p k' hp
      rw [t1, List.getElem?_set]
      by_cases e1 : k = k'
      · subst e1
        have l1 := (List.getElem?_eq_some_iff.1 hm).1
        have : s = m0 := Option.some.inj (h2.symm.trans hm)
        subst this
        exact ⟨{ s with trans := some (n, x) }, by simp [l1], h3, h4⟩
      · rw [if_neg e1]; exact ⟨s, h2, h3, h4⟩
    · have h := C.memb c
      unfold MembOk at h ⊢
      rw [r3, t1]
      have k1 : ∀ o, o ∈ M.stays.set k { m0 with trans := some (n, x) } → ∃ o0 ∈ M.stays, o0.conf = o.conf ∧ o0.mem = o.mem := fun o ho => by
        rcases (mem_set_oth hm o).1 ho with ⟨i', _, h4⟩ | rfl
        · exact ⟨o, List.mem_of_getElem? h4, rfl, rfl⟩
        · exact ⟨m0, List.mem_of_getElem? hm, rfl, rfl⟩
      have k2 : ∀ o, o ∈ M.stays → ∃ o1 ∈ M.stays.set k { m0 with trans := some (n, x) }, o1.conf = o.conf := fun o ho => by
        rcases (mem_oth hm o).1 ho with h4 | rfl
        · exact ⟨o, (mem_set_oth hm o).2 (.inl h4), rfl⟩
        · exact ⟨_, (mem_set_oth hm _).2 (.inr rfl), rfl⟩
      cases hc : M.members c with
      | none => rw [hc] at h; intro o ho; obtain ⟨o0, h4, h5, _⟩ := k1 o ho; rw [← h5]; exact h o0 h4
      | some y =>
        rw [hc] at h
        obtain ⟨⟨o, ho, hoc⟩, h7⟩ := h
        obtain ⟨o1, h4, h5⟩ := k2 o ho
        exact ⟨⟨o1, h4, h5.trans hoc⟩, fun o ho hoc => by obtain ⟨o0, h4, h5, h6⟩ := k1 o ho; rw [← h6]; exact h7 o0 h4 (h5.trans hoc)⟩
    · rw [r1, sentC_quiet n1]; exact C.sends q
    · rw [r2, seenC_quiet n2]; exact C.seen w
    · rw [a, behindB_quiet n2]; simp [JTr.brk, JTr.mod, C.b2]
    · rw [a, onceB_quiet n2, t1, any_set_or (c := false) hm (by rw [hall]; simp)]; simp [C.b3]
    · rw [a, t1, any_set_or (c := false) hm (by rw [hall]; simp)]; simp [C.b4]
    · rw [a, t1, any2_set (fun _ => false) hm (fun a => by unfold Pm; rw [hw0]; simp) (fun b => by rw [Pm_comm, Pm_comm m0]; unfold Pm; simp [hw0])]
      have z : ∀ a : MSt, Pm a { m0 with trans := some (n, x) } = false := fun a => by unfold Pm; simp [hw0]
      simp [C.b5, z]
    · rw [a, t1, any2_set (fun _ => false) hm (fun a => by unfold Qm; rw [hw0]; simp) (fun b => by unfold Qm; simp [hp1])]
      have z : ∀ a : MSt, Qm a { m0 with trans := some (n, x) } = false := fun a => by unfold Qm; simp [hw0]
      simp [C.b6, z]
end
end Go.Cs
