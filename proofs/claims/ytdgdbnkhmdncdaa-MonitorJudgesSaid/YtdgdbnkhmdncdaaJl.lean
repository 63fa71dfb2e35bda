/- Laws on what the judge keeps. -/
import Derived.Test.YtdgdbnkhmdncdaaJd
set_option linter.unusedSectionVars false
set_option linter.unusedSimpArgs false
set_option linter.unusedVariables false
namespace Go.Cs
open Go.Gw
variable [Env]
theorem JSt.wf.more {es : List Ev} {n m : Nat} {s : JSt} (h : s.wf es n) (hm : n ≤ m) : s.wf es m := ⟨h.trans, h.next, h.view, h.ready, h.gots, h.ups, fun j hj => Nat.lt_of_lt_of_le (h.before j hj) hm, h.tr⟩
theorem NowIs.lt {al : List (Int × Value)} {bs : List Nat} {f : Int → Option Nat} (h : NowIs al bs f) {q : Int} {k : Nat} (hk : f q = some k) : k < bs.length := by
  have := h q
  rw [hk] at this
  obtain ⟨b, hb, _⟩ := this
  exact (List.getElem?_eq_some_iff.1 hb).1
theorem NowIs.get {al : List (Int × Value)} {bs : List Nat} {f : Int → Option Nat} (h : NowIs al bs f) (q : Int) : (Gw.look al q).getD (.pointer none) = blk ((f q).bind (bs[·]?)) := by
  have := h q
  cases hf : f q with
  | none => rw [hf] at this; simp only [] at this; rw [this]; rfl
  | some k => rw [hf] at this; obtain ⟨b, h1, h2⟩ := this; simp [h2, h1, blk]
theorem mem_modify {X : Type} {l : List X} {k : Nat} {g : X → X} {x : X} (h : x ∈ l.modify k g) : x ∈ l ∨ ∃ y, l[k]? = some y ∧ x = g y := by
  obtain ⟨i, hi⟩ := List.mem_iff_getElem?.1 h
  rw [List.getElem?_modify] at hi
  by_cases e : k = i
  · subst e
    cases hl : l[k]? with
    | none => rw [hl] at hi; cases hi
    | some y => rw [hl] at hi; simp at hi; exact .inr ⟨y, rfl, hi.symm⟩
  · cases hl : l[i]? with
    | none => rw [hl] at hi; cases hi
    | some y => rw [hl] at hi; simp [e] at hi; subst hi; exact .inl (List.mem_of_getElem? hl)
theorem modify_set {X : Type} {l : List X} {k : Nat} {g : X → X} {x : X} (h : l[k]? = some x) : l.modify k g = l.set k (g x) := by
  apply List.ext_getElem?
  intro i
  rw [List.getElem?_modify, List.getElem?_set]
  have hlt := (List.getElem?_eq_some_iff.1 h).1
  by_cases e : k = i
  · subst e; rw [h]; simp [hlt]
  · simp [e]
theorem JSt.wf_new {es : List Ev} {i : Nat} {e : Ev} {bf : Option Nat} {n : Nat} (h : ∀ j, bf = some j → j < n) : (JSt.new i e bf).wf es n :=
  ⟨fun _ _ h => (by cases h), fun _ _ h => (by cases h), fun _ _ h => (by cases h), fun _ _ h => (by cases h), fun _ h => (by cases h), fun _ h => (by cases h), h, fun _ h => (by cases h)⟩

theorem reg_none {J : JTr} {i : Nat} {e : Ev} (h : J.now e.proc = none) : (J.reg i e).stays = J.stays ++ [JSt.new i e none] ∧
    ∀ q, (J.reg i e).bad q = ((J.bad q || (q == 1 && (!J.live e.proc || !has e.mem e.proc))) || (q == 1 && J.stays.any fun o => o.conf == e.conf && (o.mem != e.mem || o.proc == e.proc))) := by
  unfold JTr.reg; rw [h]; exact ⟨rfl, fun q => rfl⟩
theorem reg_some {J : JTr} {i k : Nat} {e : Ev} {b : JSt} (h : J.now e.proc = some k) (hb : J.stays[k]? = some b) : (J.reg i e).stays = J.stays.set k { b with next := some (i, e) } ++ [JSt.new i e (some k)] ∧
    ∀ q, (J.reg i e).bad q = ((((J.bad q || (q == 1 && (!J.live e.proc || !has e.mem e.proc))) || (q == 1 && J.stays.any fun o => o.conf == e.conf && (o.mem != e.mem || o.proc == e.proc))) || (q == 1 && confLe e.conf b.conf)) || (q == 1 && transBad b.trans e)) := by
  unfold JTr.reg; simp only [h, hb, JTr.mod, JTr.brk]; rw [modify_set hb]; exact ⟨by first | rfl | trivial, fun q => by first | rfl | trivial⟩
theorem reg_rest (J : JTr) (i : Nat) (e : Ev) : (J.reg i e).live = J.live ∧ (J.reg i e).named = J.named ∧ (J.reg i e).now = fun q => if q = e.proc then some J.stays.length else J.now q := by
  unfold JTr.reg
  cases h : J.now e.proc with
  | none => refine ⟨?_, ?_, ?_⟩ <;> first | rfl | trivial
  | some k => cases hb : J.stays[k]? with
    | none => simp only [hb]; refine ⟨?_, ?_, ?_⟩ <;> first | rfl | trivial
    | some b => simp only [hb]; refine ⟨?_, ?_, ?_⟩ <;> first | rfl | trivial
theorem JIs.reg {es : List Ev} {bs : List Nat} {J : JTr} {al al' lal nal : List (Int × Value)} {i b : Nat} {e : Ev} (h : JIs es bs J al lal nal i) (hi : es[i]? = some e) (hbad : BadIs al' (J.reg i e).bad) :
    JIs es (bs ++ [b]) (J.reg i e) al' lal (Gw.put nal e.proc (.pointer (some ⟨b, 0, none⟩))) (i + 1) := by
  obtain ⟨r1, _, r3⟩ := reg_rest J i e
  have hnew : ∀ j, J.now e.proc = some j → j < J.stays.length + 1 := fun j hj => by have := h.now.lt hj; rw [h.len] at this; omega
  refine ⟨?_, hbad, by rw [r1]; exact h.live, ?_, ?_, ?_⟩
  · cases hn : J.now e.proc with
    | none => rw [(reg_none hn).1]; simp [h.len]
    | some k =>
      have hk := h.now.lt hn
      rw [h.len] at hk
      rw [(reg_some hn (List.getElem?_eq_getElem hk)).1]; simp [h.len]
  · rw [r3, ← h.len]; exact h.now.put e.proc b
  · intro s hs
    cases hn : J.now e.proc with
    | none =>
      rw [(reg_none hn).1] at hs ⊢
      simp only [List.length_append, List.length_singleton]
      rcases List.mem_append.1 hs with h1 | h1
      · exact (h.wf s h1).more (by omega)
      · simp at h1; subst h1; exact JSt.wf_new fun j hj => by cases hj
    | some k =>
      have hk := h.now.lt hn
      rw [h.len] at hk
      rw [(reg_some hn (List.getElem?_eq_getElem hk)).1] at hs ⊢
      simp only [List.length_append, List.length_singleton, List.length_set]
      rcases List.mem_append.1 hs with h1 | h1
      · rcases List.mem_or_eq_of_mem_set h1 with h2 | h2
        · exact (h.wf s h2).more (by omega)
        · subst h2
          have h3 := (h.wf _ (List.getElem_mem hk)).more (m := J.stays.length + 1) (by omega)
          exact ⟨h3.trans, fun j x hj => by simp only [Option.some.injEq, Prod.mk.injEq] at hj; obtain ⟨rfl, rfl⟩ := hj; exact hi, h3.view, h3.ready, h3.gots, h3.ups, h3.before, h3.tr⟩
      · simp at h1; subst h1; exact JSt.wf_new fun j hj => by simp only [Option.some.injEq] at hj; subst hj; omega
  · have hf := h.few
    cases hn : J.now e.proc with
    | none =>
      rw [(reg_none hn).1]
      refine ⟨by simp; omega, fun s hs => ?_⟩
      rcases List.mem_append.1 hs with h1 | h1
      · have := hf.2 s h1; omega
      · simp at h1; subst h1; simp [JSt.new]
    | some k =>
      have hk := h.now.lt hn
      rw [h.len] at hk
      rw [(reg_some hn (List.getElem?_eq_getElem hk)).1]
      refine ⟨by simp; omega, fun s hs => ?_⟩
      rcases List.mem_append.1 hs with h1 | h1
      · rcases List.mem_or_eq_of_mem_set h1 with h2 | h2
        · have := hf.2 s h2; omega
        · subst h2; have := hf.2 _ (List.getElem_mem hk); simp only []; omega
      · simp at h1; subst h1; simp [JSt.new]
theorem reg_before {es : List Ev} {bs : List Nat} {J : JTr} {al lal nal : List (Int × Value)} {N : Nat} (i : Nat) (e : Ev) (h : JIs es bs J al lal nal N) : ∀ x ∈ (J.reg i e).stays, ∀ j, x.before = some j → j < bs.length := by
  intro s hs j hj
  have old : ∀ x ∈ J.stays, ∀ j, x.before = some j → j < bs.length := fun x hx j hj => by rw [h.len]; exact (h.wf x hx).before j hj
  cases hn : J.now e.proc with
  | none =>
    rw [(reg_none hn).1] at hs
    rcases List.mem_append.1 hs with h1 | h1
    · exact old s h1 j hj
    · simp at h1; subst h1; cases hj
  | some k =>
    have hk := h.now.lt hn
    have hk' := hk
    rw [h.len] at hk'
    rw [(reg_some hn (List.getElem?_eq_getElem hk')).1] at hs
    rcases List.mem_append.1 hs with h1 | h1
    · rcases List.mem_or_eq_of_mem_set h1 with h2 | h2
      · exact old s h2 j hj
      · subst h2; exact old _ (List.getElem_mem hk') j hj
    · simp at h1; subst h1; simp only [JSt.new, Option.some.injEq] at hj; subst hj; exact hk
theorem JIs.brk {es : List Ev} {bs : List Nat} {J : JTr} {al lal nal : List (Int × Value)} {N : Nat} (h : JIs es bs J al lal nal N) (r : Int) (is : Bool) : JIs es bs (J.brk r is) (if is then Gw.put al r (.bool true) else al) lal nal N :=
  ⟨h.len, h.bad.brk r is, h.live, h.now, h.wf, h.few⟩
theorem JIs.more {es : List Ev} {bs : List Nat} {J : JTr} {al lal nal : List (Int × Value)} {N : Nat} (h : JIs es bs J al lal nal N) : JIs es bs J al lal nal (N + 1) :=
  ⟨h.len, h.bad, h.live, h.now, h.wf, by have := h.few.1; omega, fun s hs => by have := h.few.2 s hs; omega⟩
theorem JIs.wrong {es : List Ev} {bs : List Nat} {J : JTr} {al lal nal : List (Int × Value)} {N : Nat} (h : JIs es bs J al lal nal N) (r : Int) (is : Bool) : JIs es bs (J.wrong r is) al lal nal N :=
  ⟨h.len, h.bad, h.live, h.now, h.wf, h.few⟩
theorem JIs.mod {es : List Ev} {bs : List Nat} {J : JTr} {al lal nal : List (Int × Value)} {N : Nat} {k : Nat} {g : JSt → JSt} (h : JIs es bs J al lal nal N) (hg : ∀ s, J.stays[k]? = some s → (g s).wf es J.stays.length ∧ (g s).gots.length ≤ N + 1 ∧ (g s).ups.length ≤ N + 1) : JIs es bs (J.mod k g) al lal nal (N + 1) := by
  have hl : (J.mod k g).stays.length = J.stays.length := by simp [JTr.mod]
  refine ⟨by rw [hl]; exact h.len, h.bad, h.live, h.now, fun s hs => ?_, by rw [hl]; have := h.few.1; omega, fun s hs => ?_⟩
  · rw [hl]
    rcases mem_modify hs with h1 | ⟨y, h1, rfl⟩
    · exact h.wf s h1
    · exact (hg y h1).1
  · rcases mem_modify hs with h1 | ⟨y, h1, rfl⟩
    · have := h.few.2 s h1; omega
    · exact (hg y h1).2
theorem set_same {X : Type} {l : List X} {k : Nat} {x : X} (h : l[k]? = some x) : l.set k x = l := by
  apply List.ext_getElem?
  intro i
  rw [List.getElem?_set]
  have hlt := (List.getElem?_eq_some_iff.1 h).1
  by_cases e : k = i
  · subst e; simp only [if_true, hlt]; exact h.symm
  · simp [e]
theorem mod_some {J : JTr} {k : Nat} {g : JSt → JSt} {s : JSt} (h : J.stays[k]? = some s) : (J.mod k g).stays = J.stays.set k (g s) := modify_set h
theorem NowIs.some {al : List (Int × Value)} {bs : List Nat} {f : Int → Option Nat} (h : NowIs al bs f) {q : Int} {k : Nat} (hk : f q = some k) : ∃ b, bs[k]? = Option.some b := by
  have := h q
  rw [hk] at this
  obtain ⟨b, hb, _⟩ := this
  exact ⟨b, hb⟩
theorem inn_none {J : JTr} {i : Nat} {e : Ev} (h : J.now e.proc = none) : J.inn i e = J.brk 1 true := by unfold JTr.inn; rw [h]
theorem inn_bad {J : JTr} {i k : Nat} {e : Ev} {s : JSt} (h : J.now e.proc = some k) (hs : J.stays[k]? = some s) (hb : (!J.live e.proc || s.conf != e.conf) = true) : J.inn i e = J.brk 1 true := by
  unfold JTr.inn; simp only [h, hs, hb, if_true]
theorem inn_some {J : JTr} {i k : Nat} {e : Ev} {s : JSt} (h : J.now e.proc = some k) (hs : J.stays[k]? = some s) (hb : (!J.live e.proc || s.conf != e.conf) = false) : J.inn i e =
      if e.kind = 1 then J.brk 1 s.trans.isSome
      else if e.kind = 4 then (J.brk 1 s.trans.isSome).mod k fun s => { s with trans := some (i, e) }
      else if e.kind = 2 then (J.brk 2 (e.new != transNew s.trans)).mod k fun s => { s with gots := s.gots ++ [⟨i, e.m, s.trans.isSome⟩] }
      else J := by
  unfold JTr.inn; simp only [h, hs, hb]; rfl
theorem mine_none {J : JTr} {i : Nat} {e : Ev} (h : J.now e.proc = none) : J.mine i e = J.wrong 3 true := by unfold JTr.mine; rw [h]
theorem mine_some {J : JTr} {i k0 k : Nat} {e : Ev} {s0 s : JSt} (h : J.now e.proc = some k0) (h0 : J.stays[k0]? = some s0) (hk : (if late e s0 then s0.before else some k0) = some k) (hs : J.stays[k]? = some s) : J.mine i e = J.mineOn k s i e := by
  unfold JTr.mine; simp only [h, h0, hk, hs]
theorem upp_view_none {J : JTr} {i : Nat} {e : Ev} (h : J.now e.proc = none) (hk : e.kind = 7) : J.upp i e = J := by unfold JTr.upp; simp only [hk, h, if_true]
theorem upp_view_some {J : JTr} {i k : Nat} {e : Ev} (h : J.now e.proc = some k) (hk : e.kind = 7) : J.upp i e = J.mod k fun s => { s with view := some (i, e), viewAt := i, ready := none, out := false } := by unfold JTr.upp; simp only [hk, h, if_true]
theorem upp_mine {J : JTr} {i : Nat} {e : Ev} (hn : ¬ e.kind = 7) (hk : e.kind = 11 ∨ e.kind = 8 ∨ e.kind = 9 ∨ e.kind = 10 ∨ e.kind = 12) : J.upp i e = J.mine i e := by unfold JTr.upp; rw [if_neg hn, if_pos hk]
theorem upp_not {J : JTr} {i : Nat} {e : Ev} (hn : ¬ e.kind = 7) (hk : ¬ (e.kind = 11 ∨ e.kind = 8 ∨ e.kind = 9 ∨ e.kind = 10 ∨ e.kind = 12)) : J.upp i e = J := by unfold JTr.upp; rw [if_neg hn, if_neg hk]
theorem step_start {J : JTr} {i : Nat} {e : Ev} (h : e.kind = 5) : J.step i e = { J with live := fun q => if q = e.proc then true else J.live q, now := fun q => if q = e.proc then none else J.now q } := by unfold JTr.step; rw [if_pos h]
theorem step_stop {J : JTr} {i : Nat} {e : Ev} (h : e.kind = 6) : J.step i e = { J with live := fun q => if q = e.proc then false else J.live q, now := fun q => if q = e.proc then none else J.now q } := by unfold JTr.step; rw [if_neg (by omega), if_pos h]
theorem step_reg {J : JTr} {i : Nat} {e : Ev} (h : e.kind = 3) : J.step i e = J.reg i e := by unfold JTr.step; rw [if_neg (by omega), if_neg (by omega), if_pos h]
theorem step_inn {J : JTr} {i : Nat} {e : Ev} (h : e.kind = 1 ∨ e.kind = 2 ∨ e.kind = 4) : J.step i e = J.inn i e := by unfold JTr.step; rw [if_neg (by omega), if_neg (by omega), if_neg (by omega), if_pos h]
theorem step_upp {J : JTr} {i : Nat} {e : Ev} (h5 : ¬ e.kind = 5) (h6 : ¬ e.kind = 6) (h3 : ¬ e.kind = 3) (h : ¬ (e.kind = 1 ∨ e.kind = 2 ∨ e.kind = 4)) : J.step i e = J.upp i e := by unfold JTr.step; rw [if_neg h5, if_neg h6, if_neg h3, if_neg h]
theorem JIs.init (es : List Ev) : JIs es [] JTr.init [] [] [] 0 := ⟨rfl, BadIs.nil, BadIs.nil, NowIs.nil [], fun s hs => (by cases hs), by simp [JTr.init]⟩
theorem inn_named (J : JTr) (i : Nat) (e : Ev) : (J.inn i e).named = J.named := by
  unfold JTr.inn
  cases h : J.now e.proc with
  | none => rfl
  | some k => cases hb : J.stays[k]? with
    | none => simp only [hb]; rfl
    | some s => simp only [hb]; repeat' split
                all_goals rfl
theorem inn_len (J : JTr) (i : Nat) (e : Ev) : (J.inn i e).stays.length = J.stays.length := by
  unfold JTr.inn
  cases h : J.now e.proc with
  | none => rfl
  | some k => cases hb : J.stays[k]? with
    | none => simp only [hb]; rfl
    | some s => simp only [hb]; repeat' split
                all_goals simp [JTr.brk, JTr.mod]
theorem JIs.life {es : List Ev} {bs : List Nat} {J : JTr} {al lal nal : List (Int × Value)} {N : Nat} (h : JIs es bs J al lal nal N) (hd : (nal.map (·.1)).Nodup) (p : Int) (b : Bool) :
    JIs es bs { J with live := fun q => if q = p then b else J.live q, now := fun q => if q = p then none else J.now q } al (Gw.put lal p (.bool b)) (Gw.del nal p) (N + 1) :=
  ⟨h.len, h.bad, h.live.put p b, h.now.del hd p, h.wf, by have := h.few.1; simp only []; omega, fun s hs => by have := h.few.2 s hs; omega⟩
theorem through_take {es : List Ev} {i : Nat} {e : Ev} (hi : es[i]? = some e) : through (es.take (i + 1)) = (through (es.take i)).step i e := by
  have hlt := (List.getElem?_eq_some_iff.1 hi).1
  rw [List.take_add_one, hi, show (some e).toList = [e] from rfl, through_snoc, List.length_take, Nat.min_eq_left (by omega)]
/-- The stay that an event of an incarnation is about. -/
theorem mine_stay {es : List Ev} {bs : List Nat} {J : JTr} {al lal nal : List (Int × Value)} {N : Nat} (hJ : JIs es bs J al lal nal N) (e : Ev) {k0 b0 : Nat} {s0 : JSt} (hb0 : bs[k0]? = some b0) (h0 : J.stays[k0]? = some s0) :
    ∃ k b s, (if late e s0 then s0.before else some k0) = some k ∧ bs[k]? = some b ∧ J.stays[k]? = some s ∧ (late e s0 = true → blk (s0.before.bind (bs[·]?)) = .pointer (some ⟨b, 0, none⟩)) ∧ (late e s0 = false → b = b0) := by
  cases hl : late e s0 with
  | false => exact ⟨k0, b0, s0, rfl, hb0, h0, ⟨(fun h => Bool.noConfusion h), (fun _ => rfl)⟩⟩
  | true =>
    have : s0.before.isSome = true := by simp only [late, Bool.and_eq_true] at hl; exact hl.2
    obtain ⟨k, hk⟩ := Option.isSome_iff_exists.1 this
    have hlt := (hJ.wf s0 (List.mem_of_getElem? h0)).before k hk
    have hlt' : k < bs.length := by rw [hJ.len]; exact hlt
    exact ⟨k, bs[k], J.stays[k], by rw [if_pos rfl, hk], List.getElem?_eq_getElem hlt', List.getElem?_eq_getElem hlt, fun _ => by simp [hk, blk, hlt'], (fun h => Bool.noConfusion h)⟩
end Go.Cs
