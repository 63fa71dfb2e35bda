/- The plain law, fifth part: EvDeliver and EvRegular. -/
import Derived.Test.YtdgdbnkhmdncdaaPl4
set_option linter.unusedSectionVars false
set_option linter.unusedSimpArgs false
set_option linter.unusedVariables false
namespace Go.Cs
open Go Go.Gw
variable [Env]
theorem any_fls {X : Type} (l : List X) : (l.any fun _ => false) = false := by
  induction l with
  | nil => rfl
  | cons x l ih => rw [List.any_cons, ih]; rfl
section
variable {es : List Ev} {M : MTr} {J : JTr} {x e : Ev}
theorem sendN_core (C : Cor es M J) (hx : EvEq x e) : sendN M x = cntS es e := by
  unfold sendN cntS
  rw [← hx.sent, ← C.sends, List.filter_map, List.length_map]
  congr 1
  refine List.filter_congr fun y _ => ?_
  show same x.m y = (y.core == e.m.core)
  rw [same_core, hx.m]; exact BEq.comm
theorem got_all {m : MSt} (h : m.trans.isSome = false → m.p1 = []) (y : Msg) : (m.got y).all = m.all ++ [y] := by
  unfold MSt.got MSt.all
  cases ht : m.trans.isSome
  · simp [h ht]
  · simp
theorem got_same (m : MSt) (y : Msg) : (m.got y).proc = m.proc ∧ (m.got y).conf = m.conf ∧ (m.got y).mem = m.mem ∧ (m.got y).went = m.went ∧ (m.got y).trans = m.trans := by
  unfold MSt.got; split <;> exact ⟨rfl, rfl, rfl, rfl, rfl⟩
theorem got_Q {m : MSt} (h : m.trans.isSome = false → m.p1 = []) (y : Msg) (b : MSt) : Qm (m.got y) b = (Qm m b || ((b.conf == m.conf && b.went) && owesM m.told b y)) := by
  unfold Qm MSt.told MSt.got
  cases ht : m.trans.isSome
  · simp only [h ht, if_false, Bool.false_eq_true, List.any_append, List.any_cons, List.any_nil, Bool.or_false]
    rw [BEq.comm (a := b.conf)]
    cases (m.conf == b.conf) <;> cases b.went <;> simp
  · simp only [if_true, List.any_append, List.any_cons, List.any_nil, Bool.or_false]
    rw [BEq.comm (a := b.conf)]
    cases (m.conf == b.conf) <;> cases b.went <;> simp [Bool.or_assoc]
theorem cor_deliver (C : Cor es M J) (h1 : M.bad 1 = false) (h1' : J.bad 1 = false) (hx : EvEq x e) (hk : e.kind = 2) (i : Nat) : (M.deliver x).bad 1 = (J.inn i e).bad 1 ∧ ((M.deliver x).bad 1 = false → Cor (es ++ [e]) (M.deliver x) (J.inn i e)) := by
  have n1 : ¬ e.kind = 1 := by omega
  have n4 : ¬ e.kind = 4 := by omega
  have hk2 : (e.kind == 2) = true := by simpa using hk
  rcases valid C hx i with ⟨hs, hj⟩ | ⟨k, m, j, hs, hn, hm, hnj, hj, hr, hb⟩
  · have a : (M.deliver x).bad 1 = true := by rw [(mdeliver_none hs).2]; simp
    rw [hj, a]; exact ⟨by simp [JTr.brk], fun h => by cases h⟩
  · have hJ : J.inn i e = (J.brk 2 (e.new != transNew j.trans)).mod k fun s => { s with gots := s.gots ++ [⟨i, e.m, s.trans.isSome⟩] } := by rw [inn_some hnj hj hb, if_neg n1, if_neg n4, if_pos hk]
    obtain ⟨t1, a⟩ := mdeliver_some hs
    have hst : ((J.brk 2 (e.new != transNew j.trans)).mod k fun s => { s with gots := s.gots ++ [⟨i, e.m, s.trans.isSome⟩] }).stays = J.stays.set k { j with gots := j.gots ++ [⟨i, e.m, j.trans.isSome⟩] } := mod_some (J := J.brk 2 _) hj
    rw [hJ]
    refine ⟨by rw [a, dlvBad, h1]; simp [JTr.brk, JTr.mod, h1'], fun _ => ?_⟩
    obtain ⟨r1, r2, r3, r4, r5, _⟩ := mdeliver_rest M x
    obtain ⟨m0, hm0, hw0, hp0⟩ := C.nw _ _ hn
    have : m0 = m := Option.some.inj (hm0.symm.trans hm)
    subst this
    have hall := got_all hr.late x.m
    obtain ⟨g1, g2, g3, g4, g5⟩ := got_same m0 x.m
    have hxm : [x.m].map Msg.core = [e.m.core] := by rw [← hx.m]; rfl
    have hallc : (m0.got x.m).all.map Msg.core = m0.all.map Msg.core ++ [e.m.core] := by rw [hall, List.map_append, ← hx.m]; rfl
    refine ⟨by rw [r4]; exact C.live, by rw [r5]; exact C.now, by rw [t1, hst]; simp [C.len], fun i' m' j' hm' hj' => ?_, fun p k' hp => ?_, fun c => ?_, fun q => ?_, fun w => ?_, ?_, ?_, ?_, ?_, ?_⟩
    · rw [t1, List.getElem?_set] at hm'
      rw [hst, List.getElem?_set] at hj'
      by_cases e1 : k = i'
      · subst e1
        have l1 := (List.getElem?_eq_some_iff.1 hm).1
        have l2 := (List.getElem?_eq_some_iff.1 hj).1
        simp [l1] at hm'
        simp [l2] at hj'
        subst hm' hj'
        refine ⟨g1.trans hr.proc, g2.trans hr.conf, g3.trans hr.mem, g4.trans hr.went, by rw [g5]; exact hr.tr, by rw [g5]; exact hr.tnew, by rw [g5]; exact hr.tmem, ?_, ?_, ?_, ?_⟩
        · unfold MSt.got partOf
          rw [hr.tr, List.filter_append, List.map_append, List.map_append]
          cases ht : j.trans.isSome
          · simp only [Bool.false_eq_true, if_false, List.map_append, hr.p0]; rw [hxm]; rfl
          · simp only [if_true, hr.p0]; simp [partOf]
        · unfold MSt.got partOf
          rw [hr.tr, List.filter_append, List.map_append, List.map_append]
          cases ht : j.trans.isSome
          · simp only [Bool.false_eq_true, if_false, hr.p1]; simp [partOf]
          · simp only [if_true, List.map_append, hr.p1]; rw [hxm]; rfl
        · rw [hallc, hr.all, List.map_append]; rfl
        · rw [g5]; intro h; unfold MSt.got; rw [if_neg (by rw [h]; simp)]; exact hr.late h
      · rw [if_neg e1] at hm' hj'; exact C.st i' m' j' hm' hj'
    · rw [r5] at hp
      obtain ⟨s, h2, h3, h4⟩ := C.nw p k' hp
      rw [t1, List.getElem?_set]
      by_cases e1 : k = k'
      · subst e1
        have l1 := (List.getElem?_eq_some_iff.1 hm).1
        have : s = m0 := Option.some.inj (h2.symm.trans hm)
        subst this
        exact ⟨s.got x.m, by simp [l1], g4.trans h3, g1.trans h4⟩
      · rw [if_neg e1]; exact ⟨s, h2, h3, h4⟩
    · have h := C.memb c
      unfold MembOk at h ⊢
      rw [r3, t1]
      have k1 : ∀ o, o ∈ M.stays.set k (m0.got x.m) → ∃ o0 ∈ M.stays, o0.conf = o.conf ∧ o0.mem = o.mem := fun o ho => by
        rcases (mem_set_oth hm o).1 ho with ⟨i', _, h4⟩ | rfl
        · exact ⟨o, List.mem_of_getElem? h4, rfl, rfl⟩
        · exact ⟨m0, List.mem_of_getElem? hm, g2.symm, g3.symm⟩
      have k2 : ∀ o, o ∈ M.stays → ∃ o1 ∈ M.stays.set k (m0.got x.m), o1.conf = o.conf := fun o ho => by
        rcases (mem_oth hm o).1 ho with h4 | rfl
        · exact ⟨o, (mem_set_oth hm o).2 (.inl h4), rfl⟩
        · exact ⟨_, (mem_set_oth hm _).2 (.inr rfl), g2⟩
      cases hc : M.members c with
      | none => rw [hc] at h; intro o ho; obtain ⟨o0, h4, h5, _⟩ := k1 o ho; rw [← h5]; exact h o0 h4
      | some y =>
        rw [hc] at h
        obtain ⟨⟨o, ho, hoc⟩, h7⟩ := h
        obtain ⟨o1, h4, h5⟩ := k2 o ho
        exact ⟨⟨o1, h4, h5.trans hoc⟩, fun o ho hoc => by obtain ⟨o0, h4, h5, h6⟩ := k1 o ho; rw [← h6]; exact h7 o0 h4 (h5.trans hoc)⟩
    · rw [r1, sentC_quiet n1]; exact C.sends q
    · rw [r2, seenC_snoc, hk2, hx.who]; simp [C.seen w]
    · rw [a, dlvBad, behindB_snoc, hk2, sendN_core C hx, hx.new, hr.tnew]
      simp only [JTr.brk, JTr.mod, C.b2]
      simp [Bool.or_assoc, Bool.or_comm, Bool.or_left_comm]
    · rw [a, dlvBad, onceB_snoc, hk2, t1, any_set_or (f := fun s : MSt => ordC (s.all.map Msg.core)) (c := lastC (m0.all.map Msg.core) e.m.core) hm (by rw [hallc, ordC_snoc]), lastBad_core, hx.m, C.b3, C.seen, hx.who]
      simp [Bool.or_assoc, Bool.or_comm, Bool.or_left_comm]
    · rw [a, dlvBad, t1, any_set_or (f := fun s : MSt => depsC (s.all.map Msg.core)) (c := depC e.m.core (m0.all.map Msg.core)) hm (by rw [hallc, depsC_snoc]), depBM_core, hx.m, C.b4]
      simp
    · rw [a, dlvBad, t1, any2_set (fun _ => false) hm (fun a => by unfold Pm; rw [hw0]; simp) (fun b => by rw [Pm_comm, Pm_comm m0]; unfold Pm; simp [hw0, g4])]
      have z : ∀ a : MSt, Pm a (m0.got x.m) = false := fun a => by unfold Pm; simp [hw0, g4]
      simp [C.b5, z, any_fls]
    · rw [a, dlvBad, t1, any2_set (fun b => (b.conf == m0.conf && b.went) && owesM m0.told b x.m) hm (fun a => by unfold Qm; rw [hw0]; simp) (got_Q hr.late x.m)]
      have z : ∀ a : MSt, Qm a (m0.got x.m) = false := fun a => by unfold Qm; simp [hw0, g4]
      simp [C.b6, z, any_fls]

/-! ### EvRegular -/
theorem told_any (C : Cor es M J) (c : Conf) (y : Int) : toldBad (M.members c) y = M.stays.any fun o => o.conf == c && o.mem != y := by
  have h := C.memb c
  unfold MembOk at h
  cases hc : M.members c with
  | none =>
    rw [hc] at h
    symm
    show (M.stays.any fun o => o.conf == c && o.mem != y) = false
    rw [List.any_eq_false]
    intro o ho
    have := h o ho
    simp [this]
  | some z =>
    rw [hc] at h
    obtain ⟨⟨o, ho, hoc⟩, h2⟩ := h
    rw [Bool.eq_iff_iff]
    simp only [toldBad, List.any_eq_true, Bool.and_eq_true, beq_iff_eq]
    exact ⟨fun h0 => ⟨o, ho, hoc, by rw [h2 o ho hoc]; exact h0⟩, fun ⟨o, ho, h1, h3⟩ => by rw [h2 o ho h1] at h3; exact h3⟩
theorem any_or {X : Type} (f g : X → Bool) : ∀ l : List X, (l.any f || l.any g) = l.any fun x => f x || g x
  | [] => rfl
  | x :: l => by
    rw [List.any_cons, List.any_cons, List.any_cons, ← any_or f g l]
    cases f x <;> cases g x <;> simp
theorem reg_any (C : Cor es M J) (hx : EvEq x e) : (toldBad (M.members x.conf) x.mem || M.stays.any fun o => o.conf == x.conf && o.proc == x.proc) = J.stays.any fun o => o.conf == e.conf && (o.mem != e.mem || o.proc == e.proc) := by
  rw [told_any C, any_or]
  refine any_rel C.len fun i m j hm hj => ?_
  have hr := C.st i m j hm hj
  rw [hr.conf, hr.mem, hr.proc, hx.conf, hx.mem, hx.proc]
  cases (j.conf == e.conf) <;> simp
theorem transBad_rel {t t' : EvR} (h1 : t.isSome = t'.isSome) (h2 : transNew t = transNew t') (h3 : transMem t = transMem t') (hx : EvEq x e) : transBad t x = transBad t' e := by
  cases t with
  | none => cases t' with
    | none => rfl
    | some y => cases h1
  | some y => cases t' with
    | none => cases h1
    | some z =>
      obtain ⟨_, y⟩ := y
      obtain ⟨_, z⟩ := z
      have h2' : y.new = z.new := h2
      have h3' : y.mem = z.mem := h3
      simp only [transBad, h2', h3', hx.conf, hx.mem, hx.proc]
theorem get_lastM {X : Type} (l : List X) (y : X) : (l ++ [y])[l.length]? = some y := by
  rw [List.getElem?_append_right (Nat.le_refl _), Nat.sub_self]; rfl
theorem new_P (a : MSt) (x : Ev) : Pm a (MSt.new x) = false := by unfold Pm MSt.new; simp
theorem new_Q (a : MSt) (x : Ev) : Qm a (MSt.new x) = false ∧ Qm (MSt.new x) a = false := by unfold Qm MSt.new; simp
theorem new_rel (hx : EvEq x e) (i : Nat) (b : Option Nat) : StRel (MSt.new x) (JSt.new i e b) := ⟨hx.proc, hx.conf, hx.mem, rfl, rfl, rfl, rfl, rfl, rfl, rfl, fun _ => rfl⟩
theorem memb_reg (C : Cor es M J) (hq : (M.stays.any fun o => o.conf == x.conf && o.mem != x.mem) = false) {ss : List MSt} {members : Conf → Option Int} (hm : members = fun c => if c = x.conf then some x.mem else M.members c)
    (k1 : ∀ o, o ∈ ss → ∃ o0 ∈ M.stays, o0.conf = o.conf ∧ o0.mem = o.mem) (k2 : ∀ o, o ∈ M.stays → ∃ o1 ∈ ss, o1.conf = o.conf) (c : Conf) :
    match members c with
    | none => ∀ o ∈ ss ++ [MSt.new x], o.conf ≠ c
    | some y => (∃ o ∈ ss ++ [MSt.new x], o.conf = c) ∧ ∀ o ∈ ss ++ [MSt.new x], o.conf = c → o.mem = y := by
  have h := C.memb c
  unfold MembOk at h
  rw [hm]
  by_cases hc : c = x.conf
  · subst hc
    simp only [if_true]
    refine ⟨⟨MSt.new x, by simp, rfl⟩, fun o ho hoc => ?_⟩
    rcases List.mem_append.1 ho with h4 | h4
    · obtain ⟨o0, h5, h6, h7⟩ := k1 o h4
      rw [← h7]
      have h8 := List.any_eq_false.1 hq o0 h5
      simp only [h6, hoc, beq_self_eq_true, Bool.true_and, bne_iff_ne, ne_eq, Decidable.not_not] at h8
      exact h8
    · simp at h4; subst h4; rfl
  · simp only [hc, if_false]
    have hnew : ∀ o ∈ ss ++ [MSt.new x], o.conf = c → o ∈ ss := fun o ho hoc => by
      rcases List.mem_append.1 ho with h4 | h4
      · exact h4
      · simp at h4; subst h4; exact absurd hoc.symm hc
    cases hmc : M.members c with
    | none => rw [hmc] at h; intro o ho hoc; obtain ⟨o0, h5, h6, _⟩ := k1 o (hnew o ho hoc); exact h o0 h5 (h6.trans hoc)
    | some y =>
      rw [hmc] at h
      obtain ⟨⟨o, ho, hoc⟩, h7⟩ := h
      obtain ⟨o1, h4, h5⟩ := k2 o ho
      exact ⟨⟨o1, List.mem_append_left _ h4, h5.trans hoc⟩, fun o ho hoc => by obtain ⟨o0, h4, h5, h6⟩ := k1 o (hnew o ho hoc); rw [← h6]; exact h7 o0 h4 (h5.trans hoc)⟩
theorem cor_reg (C : Cor es M J) (h1 : M.bad 1 = false) (h1' : J.bad 1 = false) (hx : EvEq x e) (hk : e.kind = 3) (i : Nat) : (M.reg x).bad 1 = (J.reg i e).bad 1 ∧ ((M.reg x).bad 1 = false → Cor (es ++ [e]) (M.reg x) (J.reg i e)) := by
  have n1 : ¬ e.kind = 1 := by omega
  have n2 : ¬ e.kind = 2 := by omega
  obtain ⟨r1, r2, r3, r4, r5, _⟩ := mreg_rest M x
  obtain ⟨s1, _, s3⟩ := reg_rest J i e
  have hA : (!M.live x.proc || !has x.mem x.proc) = (!J.live e.proc || !has e.mem e.proc) := by rw [C.live, hx.proc, hx.mem]
  have hR := reg_any C hx
  have hnow : (M.reg x).now = (J.reg i e).now := by rw [r5, s3, hx.proc, C.len, C.now]
  cases hn : M.now x.proc with
  | none =>
    have hnj : J.now e.proc = none := by rw [← C.now, ← hx.proc]; exact hn
    obtain ⟨t1, a⟩ := mreg_none hn
    obtain ⟨u1, b⟩ := reg_none (i := i) hnj
    refine ⟨by rw [a, b, h1, h1', ← hR, hA]; simp [Bool.or_assoc], fun hbad => ?_⟩
    have hq : (M.stays.any fun o => o.conf == x.conf && o.mem != x.mem) = false := by
      rw [← told_any C]; rw [a] at hbad; simp at hbad; exact hbad.1.2
    refine ⟨by rw [r1, s1]; exact C.live, hnow, by rw [t1, u1]; simp [C.len], fun i' m' j' hm' hj' => ?_, fun p k' hp => ?_, fun c => ?_, fun q => ?_, fun w => ?_, ?_, ?_, ?_, ?_, ?_⟩
    · rw [t1] at hm'; rw [u1] at hj'
      rcases Nat.lt_or_ge i' M.stays.length with hlt | hge
      · rw [List.getElem?_append_left hlt] at hm'
        rw [List.getElem?_append_left (by rw [← C.len]; exact hlt)] at hj'
        exact C.st i' m' j' hm' hj'
      · rw [List.getElem?_append_right hge] at hm'
        rw [List.getElem?_append_right (by rw [← C.len]; exact hge), ← C.len] at hj'
        cases hd : i' - M.stays.length with
        | zero => rw [hd] at hm' hj'; simp at hm' hj'; subst hm' hj'; exact new_rel hx i none
        | succ d => rw [hd] at hm'; simp at hm'
    · rw [r5] at hp
      rw [t1]
      by_cases hpp : p = x.proc
      · simp only [hpp, if_true, Option.some.injEq] at hp
        subst hp
        exact ⟨MSt.new x, get_lastM _ _, rfl, hpp.symm⟩
      · simp only [hpp, if_false] at hp
        obtain ⟨s, h2, h3, h4⟩ := C.nw p k' hp
        exact ⟨s, by rw [List.getElem?_append_left (List.getElem?_eq_some_iff.1 h2).1]; exact h2, h3, h4⟩
    · unfold MembOk; rw [t1]; exact memb_reg C hq r4 (fun o ho => ⟨o, ho, rfl, rfl⟩) (fun o ho => ⟨o, ho, rfl⟩) c
    · rw [r2, sentC_quiet n1]; exact C.sends q
    · rw [r3, seenC_quiet n2]; exact C.seen w
    · rw [a, (reg_bad J i e 2).2 (by decide), behindB_quiet n2]; simp [C.b2]
    · rw [a, onceB_quiet n2, t1]; simp [C.b3, List.any_append, MSt.new, MSt.all, ordC]
    · rw [a, t1]; simp [C.b4, List.any_append, MSt.new, MSt.all, depsC]
    · rw [a, t1, any2_push (fun a => new_P a x) (fun a => by rw [Pm_comm]; exact new_P a x)]; simp [C.b5]
    · rw [a, t1, any2_push (fun a => (new_Q a x).1) (fun a => (new_Q a x).2)]; simp [C.b6]
  | some k =>
    have hnj : J.now e.proc = some k := by rw [← C.now, ← hx.proc]; exact hn
    obtain ⟨m, hm, hw, hp⟩ := C.nw _ _ hn
    obtain ⟨j, hj, hr⟩ := C.jst hm
    obtain ⟨t1, a⟩ := mreg_some hn hm
    obtain ⟨u1, b⟩ := reg_some (i := i) hnj hj
    have hlt := (List.getElem?_eq_some_iff.1 hm).1
    have hT := transBad_rel hr.tr hr.tnew hr.tmem hx
    refine ⟨by rw [a, b, h1, h1', ← hR, hA, hT, hx.conf, hr.conf]; simp [Bool.or_assoc], fun hbad => ?_⟩
    have hq : (M.stays.any fun o => o.conf == x.conf && o.mem != x.mem) = false := by
      rw [← told_any C]; rw [a] at hbad; simp at hbad; exact hbad.1.1.1.2
    have kA : ∀ o, o ∈ M.stays.set k { m with went := true } → ∃ o0 ∈ M.stays, o0.conf = o.conf ∧ o0.mem = o.mem := fun o ho => by
      rcases (mem_set_oth hm o).1 ho with ⟨i', _, h4⟩ | rfl
      · exact ⟨o, List.mem_of_getElem? h4, rfl, rfl⟩
      · exact ⟨m, List.mem_of_getElem? hm, rfl, rfl⟩
    have kB : ∀ o, o ∈ M.stays → ∃ o1 ∈ M.stays.set k { m with went := true }, o1.conf = o.conf := fun o ho => by
      rcases (mem_oth hm o).1 ho with h4 | rfl
      · exact ⟨o, (mem_set_oth hm o).2 (.inl h4), rfl⟩
      · exact ⟨_, (mem_set_oth hm _).2 (.inr rfl), rfl⟩
    have hlate : ∀ o ∈ M.stays.set k { m with went := true }, o.trans.isSome = false → o.p1 = [] := fun o ho => by
      rcases (mem_set_oth hm o).1 ho with ⟨i', _, h4⟩ | rfl
      · obtain ⟨j', _, hr'⟩ := C.jst h4; exact hr'.late
      · exact hr.late
    refine ⟨by rw [r1, s1]; exact C.live, hnow, by rw [t1, u1]; simp [C.len], fun i' m' j' hm' hj' => ?_, fun p k' hp' => ?_, fun c => ?_, fun q => ?_, fun w => ?_, ?_, ?_, ?_, ?_, ?_⟩
    · rw [t1] at hm'; rw [u1] at hj'
      rcases Nat.lt_or_ge i' M.stays.length with hlt' | hge
      · rw [List.getElem?_append_left (by rw [List.length_set]; exact hlt'), List.getElem?_set] at hm'
        rw [List.getElem?_append_left (by rw [List.length_set, ← C.len]; exact hlt'), List.getElem?_set] at hj'
        by_cases e1 : k = i'
        · subst e1
          have l2 := (List.getElem?_eq_some_iff.1 hj).1
          simp [hlt] at hm'
          simp [l2] at hj'
          subst hm' hj'
          exact ⟨hr.proc, hr.conf, hr.mem, rfl, hr.tr, hr.tnew, hr.tmem, hr.p0, hr.p1, hr.all, hr.late⟩
        · rw [if_neg e1] at hm' hj'; exact C.st i' m' j' hm' hj'
      · rw [List.getElem?_append_right (by rw [List.length_set]; exact hge), List.length_set] at hm'
        rw [List.getElem?_append_right (by rw [List.length_set, ← C.len]; exact hge), List.length_set, ← C.len] at hj'
        cases hd : i' - M.stays.length with
        | zero => rw [hd] at hm' hj'; simp at hm' hj'; subst hm' hj'; exact new_rel hx i (some k)
        | succ d => rw [hd] at hm'; simp at hm'
    · rw [r5] at hp'
      rw [t1]
      by_cases hpp : p = x.proc
      · simp only [hpp, if_true, Option.some.injEq] at hp'
        subst hp'
        refine ⟨MSt.new x, ?_, rfl, hpp.symm⟩
        have := get_lastM (M.stays.set k { m with went := true }) (MSt.new x)
        rw [List.length_set] at this; exact this
      · simp only [hpp, if_false] at hp'
        obtain ⟨s, h2, h3, h4⟩ := C.nw p k' hp'
        have hne : k ≠ k' := fun h => by
          subst h
          have : s = m := Option.some.inj (h2.symm.trans hm)
          subst this
          exact hpp (h4.symm.trans hp)
        refine ⟨s, ?_, h3, h4⟩
        rw [List.getElem?_append_left (by rw [List.length_set]; exact (List.getElem?_eq_some_iff.1 h2).1), List.getElem?_set, if_neg hne]; exact h2
    · unfold MembOk; rw [t1]; exact memb_reg C hq r4 kA kB c
    · rw [r2, sentC_quiet n1]; exact C.sends q
    · rw [r3, seenC_quiet n2]; exact C.seen w
    · rw [a, (reg_bad J i e 2).2 (by decide), behindB_quiet n2]; simp [C.b2]
    · rw [a, onceB_quiet n2, t1, List.any_append, any_set_or (f := fun s : MSt => ordC (s.all.map Msg.core)) (c := false) hm (by rw [show ({ m with went := true } : MSt).all = m.all from rfl]; simp)]; simp [C.b3, MSt.new, MSt.all, ordC]
    · rw [a, t1, List.any_append, any_set_or (f := fun s : MSt => depsC (s.all.map Msg.core)) (c := false) hm (by rw [show ({ m with went := true } : MSt).all = m.all from rfl]; simp)]; simp [C.b4, MSt.new, MSt.all, depsC]
    · rw [a, t1, any2_push (fun a => new_P a x) (fun a => by rw [Pm_comm]; exact new_P a x)]
      rw [any2_set (fun b => Pm { m with went := true } b) hm (fun a => by unfold Pm; rw [hw]; simp) (fun b => by rw [show Pm m b = false from by rw [Pm_comm]; unfold Pm; rw [hw]; simp]; rfl)]
      have z : (M.stays.set k { m with went := true }).any (clo5 { m with went := true }) = (M.stays.set k { m with went := true }).any fun o => Pm o { m with went := true } := any_mem fun o _ => clo5_P rfl
      have z2 : ((M.stays.set k { m with went := true }).any fun b => Pm { m with went := true } b) = (M.stays.set k { m with went := true }).any fun o => Pm o { m with went := true } := any_mem fun o _ => Pm_comm _ _
      rw [z, z2]; simp [C.b5]
    · rw [a, t1, any2_push (fun a => (new_Q a x).1) (fun a => (new_Q a x).2)]
      rw [any2_set (fun _ => false) hm (fun a => by unfold Qm; rw [hw]; simp) (fun b => by simp [Qm])]
      have z : (M.stays.set k { m with went := true }).any (clo6 { m with went := true }) = (M.stays.set k { m with went := true }).any fun o => Qm o { m with went := true } := any_mem fun o ho => clo6_Q rfl (hlate o ho)
      rw [z]; simp [C.b6]
end
end Go.Cs
