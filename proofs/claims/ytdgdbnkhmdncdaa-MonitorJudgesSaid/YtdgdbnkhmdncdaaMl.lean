/- Laws on what the monitor keeps. -/
import Derived.Test.YtdgdbnkhmdncdaaMd
set_option linter.unusedSectionVars false
set_option linter.unusedSimpArgs false
set_option linter.unusedVariables false
namespace Go.Cs
open Go Go.Gw
variable [Env]
theorem mreg_none {M : MTr} {e : Ev} (h : M.now e.proc = none) : (M.reg e).stays = M.stays ++ [MSt.new e] ∧
    ∀ q, (M.reg e).bad q = (((M.bad q || (q == 1 && (!M.live e.proc || !has e.mem e.proc))) || (q == 1 && toldBad (M.members e.conf) e.mem)) || (q == 1 && M.stays.any fun o => o.conf == e.conf && o.proc == e.proc)) := by
  unfold MTr.reg; simp only [h]; exact ⟨by first | rfl | trivial, fun q => by first | rfl | trivial⟩
theorem mreg_some {M : MTr} {k : Nat} {e : Ev} {b : MSt} (h : M.now e.proc = some k) (hb : M.stays[k]? = some b) : (M.reg e).stays = M.stays.set k { b with went := true } ++ [MSt.new e] ∧
    ∀ q, (M.reg e).bad q = ((((((M.bad q || (q == 1 && (!M.live e.proc || !has e.mem e.proc))) || (q == 1 && toldBad (M.members e.conf) e.mem)) || (q == 1 && M.stays.any fun o => o.conf == e.conf && o.proc == e.proc)) || (q == 1 && confLe e.conf b.conf)) || (q == 1 && transBad b.trans e)) || (q == 6 && (M.stays.set k { b with went := true }).any (clo6 { b with went := true })) || (q == 5 && (M.stays.set k { b with went := true }).any (clo5 { b with went := true }))) := by
  unfold MTr.reg; simp only [h, hb]; exact ⟨by first | rfl | trivial, fun q => by first | rfl | trivial⟩
theorem mreg_rest (M : MTr) (e : Ev) : (M.reg e).live = M.live ∧ (M.reg e).sends = M.sends ∧ (M.reg e).seen = M.seen ∧ (M.reg e).members = (fun k => if k = e.conf then some e.mem else M.members k) ∧ (M.reg e).now = (fun q => if q = e.proc then some M.stays.length else M.now q) ∧ (M.reg e).len = M.len ∧ (M.reg e).at_ = M.at_ ∧ (M.reg e).rule = M.rule := by
  unfold MTr.reg
  cases h : M.now e.proc with
  | none => refine ⟨?_, ?_, ?_, ?_, ?_, ?_, ?_, ?_⟩ <;> first | rfl | trivial
  | some k => cases hb : M.stays[k]? with
    | none => simp only [hb]; refine ⟨?_, ?_, ?_, ?_, ?_, ?_, ?_, ?_⟩ <;> first | rfl | trivial
    | some b => simp only [hb]; refine ⟨?_, ?_, ?_, ?_, ?_, ?_, ?_, ?_⟩ <;> first | rfl | trivial
theorem MSt.wf_new (ρ : Heap) (T : TypeId) (N : Nat) (e : Ev) : (MSt.new e).wf ρ T N := ⟨fun _ _ h => (by cases h), fun _ h => (by cases h), fun _ h => (by cases h), Nat.zero_le _⟩
theorem MSt.wf.went {ρ : Heap} {T : TypeId} {N : Nat} {s : MSt} (h : s.wf ρ T N) : ({ s with went := true } : MSt).wf ρ T N := ⟨h.trans, h.ok0, h.ok1, h.few⟩
theorem MIs.reg {ρ : Heap} {T : TypeId} {bs : List Nat} {M : MTr} {sl : List (Who × Value)} {ml : List (Conf × Value)} {lal nal : List (Int × Value)} {N : Nat} (h : MIs ρ T bs M sl ml lal nal N) (e : Ev) (b : Nat) :
    MIs ρ T (bs ++ [b]) (M.reg e) sl (Gw.put ml e.conf (.int .u64 e.mem)) lal (Gw.put nal e.proc (.pointer (some ⟨b, 0, none⟩))) (N + 1) := by
  obtain ⟨r1, r2, r3, r4, r5, _⟩ := mreg_rest M e
  have hs : (M.reg e).stays.length = M.stays.length + 1 ∧ ∀ s ∈ (M.reg e).stays, s.wf ρ T (N + 1) := by
    cases hn : M.now e.proc with
    | none =>
      rw [(mreg_none hn).1]
      refine ⟨by simp, fun s hs => ?_⟩
      rcases List.mem_append.1 hs with h1 | h1
      · exact (h.wf s h1).up (Sub.rfl' _) (by omega)
      · simp at h1; subst h1; exact MSt.wf_new _ _ _ _
    | some k =>
      have hk := h.now.lt hn
      rw [h.len] at hk
      rw [(mreg_some hn (List.getElem?_eq_getElem hk)).1]
      refine ⟨by simp, fun s hs => ?_⟩
      rcases List.mem_append.1 hs with h1 | h1
      · rcases List.mem_or_eq_of_mem_set h1 with h2 | h2
        · exact (h.wf s h2).up (Sub.rfl' _) (by omega)
        · subst h2; exact ((h.wf _ (List.getElem_mem hk)).up (Sub.rfl' _) (by omega)).went
      · simp at h1; subst h1; exact MSt.wf_new _ _ _ _
  refine ⟨by rw [hs.1]; simp [h.len], by rw [r3]; exact h.seen, by rw [r4]; exact h.memb.put _ _, by rw [r1]; exact h.live, ?_, hs.2, fun k => ?_, by rw [hs.1]; have := h.few; omega⟩
  · rw [r5, ← h.len]; exact h.now.put e.proc b
  · rw [r2]; have := h.sends k; exact ⟨by omega, this.2⟩
theorem stay_get {ρ : Heap} {T : TypeId} {bs : List Nat} {M : MTr} {sl : List (Who × Value)} {ml : List (Conf × Value)} {lal nal : List (Int × Value)} {N : Nat} (h : MIs ρ T bs M sl ml lal nal N) (e : Ev) (hs : (M.stayAt e).isSome = true) : ∃ k s bk, M.stayAt e = some (k, s) ∧ M.stays[k]? = some s ∧ bs[k]? = some bk := by
  unfold MTr.stayAt at hs ⊢
  cases hn : M.now e.proc with
  | none => rw [hn] at hs; cases hs
  | some k =>
    obtain ⟨bk, hbk⟩ := h.now.some hn
    have hlt : k < M.stays.length := by rw [← h.len]; exact (List.getElem?_eq_some_iff.1 hbk).1
    rw [hn] at hs
    simp only [List.getElem?_eq_getElem hlt] at hs ⊢
    by_cases hb : (!M.live e.proc || M.stays[k].conf != e.conf) = true
    · rw [if_pos hb] at hs; cases hs
    · exact ⟨k, _, bk, by rw [if_neg hb], List.getElem?_eq_getElem hlt, hbk⟩
theorem stay_none {ρ : Heap} {T : TypeId} {bs : List Nat} {M : MTr} {sl : List (Who × Value)} {ml : List (Conf × Value)} {lal nal : List (Int × Value)} {N : Nat} (h : MIs ρ T bs M sl ml lal nal N) (e : Ev) : (((M.stayAt e).bind fun x => bs[x.1]?).map fun b => (⟨b, 0, none⟩ : Addr)).isNone = (M.stayAt e).isNone := by
  cases hs : M.stayAt e with
  | none => rfl
  | some x =>
    obtain ⟨k, s, bk, h1, h2, h3⟩ := stay_get h e (by rw [hs]; rfl)
    rw [hs] at h1; cases h1
    simp [h3]
theorem msend_rest (M : MTr) (e : Ev) : (M.send e).stays = M.stays ∧ (M.send e).seen = M.seen ∧ (M.send e).members = M.members ∧ (M.send e).live = M.live ∧ (M.send e).now = M.now ∧ (M.send e).len = M.len ∧ (M.send e).at_ = M.at_ ∧ (M.send e).rule = M.rule ∧ (M.send e).sends = if e.proc == e.m.frm then (fun k => if k = evSent e then M.sends (evSent e) ++ [e.m] else M.sends k) else M.sends := by
  unfold MTr.send
  cases M.stayAt e with
  | none => by_cases h : (e.proc == e.m.frm) = true <;> simp [h, MTr.brk]
  | some x => by_cases h : (e.proc == e.m.frm) = true <;> simp [h, MTr.brk]
theorem msend_bad (M : MTr) (e : Ev) (q : Int) : (M.send e).bad q = (M.bad q || (q == 1 && (match M.stayAt e with
    | none => true
    | some x => x.2.trans.isSome))) := by
  unfold MTr.send
  cases M.stayAt e with
  | none => by_cases h : (e.proc == e.m.frm) = true <;> simp [h, MTr.brk]
  | some x => by_cases h : (e.proc == e.m.frm) = true <;> simp [h, MTr.brk]
theorem MIs.send {ρ : Heap} {T : TypeId} {bs : List Nat} {M : MTr} {sl : List (Who × Value)} {ml : List (Conf × Value)} {lal nal : List (Int × Value)} {N : Nat} (h : MIs ρ T bs M sl ml lal nal N) (e : Ev) (hok : e.m.ok ρ) : MIs ρ T bs (M.send e) sl ml lal nal (N + 1) := by
  obtain ⟨r1, r2, r3, r4, r5, _, _, _, r9⟩ := msend_rest M e
  refine ⟨by rw [r1]; exact h.len, by rw [r2]; exact h.seen, by rw [r3]; exact h.memb, by rw [r4]; exact h.live, by rw [r5]; exact h.now, fun s hs => by rw [r1] at hs; exact (h.wf s hs).up (Sub.rfl' _) (by omega), fun k => ?_, by rw [r1]; have := h.few; omega⟩
  rw [r9]
  have h0 := h.sends k
  by_cases hp : (e.proc == e.m.frm) = true
  · rw [if_pos hp]
    by_cases hk : k = evSent e
    · subst hk
      simp only [if_true]
      refine ⟨by simp; omega, fun m hm => ?_⟩
      rcases List.mem_append.1 hm with h1 | h1
      · exact h0.2 m h1
      · simp at h1; subst h1; exact hok
    · simp only [hk, if_false]; exact ⟨by omega, h0.2⟩
  · rw [if_neg hp]; exact ⟨by omega, h0.2⟩
def dlvBad (M : MTr) (e : Ev) (q : Int) : Bool := (M.bad q || (q == 2 && (sendN M e : Int) != 1)) || (q == 3 && M.seen (evWho e))
theorem mdeliver_none {M : MTr} {e : Ev} (h : M.stayAt e = none) : (M.deliver e).stays = M.stays ∧ ∀ q, (M.deliver e).bad q = (dlvBad M e q || (q == 1 && true)) := by
  unfold MTr.deliver; simp only [h]; exact ⟨by first | rfl | trivial, fun q => by first | rfl | trivial⟩
theorem mdeliver_some {M : MTr} {e : Ev} {k : Nat} {s : MSt} (h : M.stayAt e = some (k, s)) : (M.deliver e).stays = M.stays.set k (s.got e.m) ∧
    ∀ q, (M.deliver e).bad q = ((((dlvBad M e q || (q == 2 && e.new != transNew s.trans)) || (q == 3 && lastBad s.all e.m)) || (q == 4 && depBM e.m s.all e.m.deps.length)) || (q == 6 && (M.stays.set k (s.got e.m)).any fun b => (b.conf == s.conf && b.went) && owesM s.told b e.m)) := by
  unfold MTr.deliver; simp only [h]; exact ⟨by first | rfl | trivial, fun q => by first | rfl | trivial⟩
theorem mdeliver_rest (M : MTr) (e : Ev) : (M.deliver e).sends = M.sends ∧ (M.deliver e).seen = (fun w => M.seen w || evWho e == w) ∧ (M.deliver e).members = M.members ∧ (M.deliver e).live = M.live ∧ (M.deliver e).now = M.now ∧ (M.deliver e).len = M.len ∧ (M.deliver e).at_ = M.at_ ∧ (M.deliver e).rule = M.rule := by
  unfold MTr.deliver
  cases M.stayAt e with
  | none => refine ⟨?_, ?_, ?_, ?_, ?_, ?_, ?_, ?_⟩ <;> first | rfl | trivial
  | some x => refine ⟨?_, ?_, ?_, ?_, ?_, ?_, ?_, ?_⟩ <;> first | rfl | trivial
theorem MSt.wf.got {ρ : Heap} {T : TypeId} {N : Nat} {s : MSt} (h : s.wf ρ T N) {m : Msg} (hm : m.ok ρ) : (s.got m).wf ρ T (N + 1) := by
  have hf := h.few
  unfold MSt.got
  by_cases ht : s.trans.isSome = true
  · rw [if_pos ht]
    exact ⟨h.trans, h.ok0, fun x hx => (List.mem_append.1 hx).elim (h.ok1 x) (fun h1 => by simp at h1; subst h1; exact hm), by simp; omega⟩
  · rw [if_neg ht]
    exact ⟨h.trans, fun x hx => (List.mem_append.1 hx).elim (h.ok0 x) (fun h1 => by simp at h1; subst h1; exact hm), h.ok1, by simp; omega⟩
theorem MIs.deliver {ρ : Heap} {T : TypeId} {bs : List Nat} {M : MTr} {sl : List (Who × Value)} {ml : List (Conf × Value)} {lal nal : List (Int × Value)} {N : Nat} (h : MIs ρ T bs M sl ml lal nal N) (e : Ev) (hok : e.m.ok ρ) : MIs ρ T bs (M.deliver e) (Gw.put sl (evWho e) (.bool true)) ml lal nal (N + 1) := by
  obtain ⟨r1, r2, r3, r4, r5, _⟩ := mdeliver_rest M e
  have hs : (M.deliver e).stays.length = M.stays.length ∧ ∀ s ∈ (M.deliver e).stays, s.wf ρ T (N + 1) := by
    cases hn : M.stayAt e with
    | none => rw [(mdeliver_none hn).1]; exact ⟨rfl, fun s hs => (h.wf s hs).up (Sub.rfl' _) (by omega)⟩
    | some x =>
      obtain ⟨k, s⟩ := x
      obtain ⟨k', s', bk, h1, h2, h3⟩ := stay_get h e (by rw [hn]; rfl)
      rw [hn] at h1; cases h1
      rw [(mdeliver_some hn).1]
      refine ⟨by simp, fun y hy => ?_⟩
      rcases List.mem_or_eq_of_mem_set hy with h4 | h4
      · exact (h.wf y h4).up (Sub.rfl' _) (by omega)
      · subst h4; exact (h.wf s (List.mem_of_getElem? h2)).got hok
  exact ⟨by rw [hs.1]; exact h.len, by rw [r2]; exact h.seen.put _, by rw [r3]; exact h.memb, by rw [r4]; exact h.live, by rw [r5]; exact h.now, hs.2, fun k => by rw [r1]; have := h.sends k; exact ⟨by omega, this.2⟩, by rw [hs.1]; have := h.few; omega⟩
theorem depBM_succ {m : Msg} {l : List Msg} {i : Nat} {n : Int} (h : m.deps[i]? = some n) : depBM m l (i + 1) = (depBM m l i || decide (IntKind.i64.wrap n > cntM l i)) := by
  rw [depBM, any_range, depBM, depAtM, h]
end Go.Cs
