/- A row of events told to a monitor. -/
import Derived.Test.YtdgdbnkhmdncdaaMm
set_option linter.unusedSectionVars false
set_option linter.unusedSimpArgs false
set_option linter.unusedVariables false
namespace Go.Cs
open Go Go.Gw
variable [Env]
def ev0 (k p : Int) : Ev := ⟨k, p, (0, 0), (0, 0), 0, ⟨0, 0, 0, 0, [], none, 0, ⟨#[]⟩⟩, (0, (0, 0), 0), [], none, 0, ⟨#[]⟩⟩
theorem ev0_ok (ρ : Heap) (k p : Int) : (ev0 k p).ok ρ := ⟨⟨⟨rfl, rfl⟩, Nat.zero_le _⟩, ⟨rfl, rfl⟩, Nat.zero_le _⟩
def run (L : List (Nat × Ev)) : MTr := L.foldl (fun M x => M.add x.1 x.2) MTr.init
theorem run_snoc (L : List (Nat × Ev)) (x : Nat × Ev) : run (L ++ [x]) = (run L).add x.1 x.2 := by simp [run]
def Ev.core (e : Ev) : Int × Int × Conf × Conf × Int × Core := (e.kind, e.proc, e.conf, e.new, e.mem, e.m.core)
theorem at_core (e : Ev) (q : Option Addr) (k : Nat) : (e.at_ q k).core = e.core := rfl
theorem aw1 (n : Nat) (q : Option Addr) (k : Nat) : least (MTr.init.add n ((ev0 5 0).at_ q k)).bad = 0 := rfl
theorem aw2 (n : Nat) (q : Option Addr) (k : Nat) (n' : Nat) (q' : Option Addr) (k' : Nat) : least ((MTr.init.add n ((ev0 5 0).at_ q k)).add n' ((ev0 2 1).at_ q' k')).bad = 1 := rfl
theorem aw3 (n : Nat) (q : Option Addr) (k : Nat) (n' : Nat) (q' : Option Addr) (k' : Nat) : ((MTr.init.add n ((ev0 5 0).at_ q k)).add n' ((ev0 2 1).at_ q' k')).len = 2 ∧ ((MTr.init.add n ((ev0 5 0).at_ q k)).add n' ((ev0 2 1).at_ q' k')).at_ = 2 ∧ ((MTr.init.add n ((ev0 5 0).at_ q k)).add n' ((ev0 2 1).at_ q' k')).rule = 1 := ⟨rfl, rfl, rfl⟩
theorem add_len (M : MTr) (n : Nat) (e : Ev) : (M.add n e).len = M.len + 1 := by
  rw [add_eq]
  have h := (main_len M.tick n e).1
  unfold MTr.mark; split
  · exact h
  · exact h
theorem snocInd {α : Type} {P : List α → Prop} (h0 : P []) (h1 : ∀ l x, P l → P (l ++ [x])) (l : List α) : P l := by
  rw [← List.reverse_reverse l]
  induction l.reverse with
  | nil => exact h0
  | cons x r ih => rw [List.reverse_cons]; exact h1 _ _ ih
theorem run_len (L : List (Nat × Ev)) : (run L).len = (L.length : Int) :=
  snocInd (P := fun L => (run L).len = (L.length : Int)) rfl (fun L x ih => by rw [run_snoc, add_len, ih]; simp) L
theorem qd (a c : Int) (ha : 0 ≤ a) (hb : a ≤ 20000) (hc : 0 < c) : IntKind.i64.wrap (a.tdiv c) = a.tdiv c ∧ 0 ≤ a.tdiv c ∧ a.tdiv c ≤ 20000 := by
  have h1 : 0 ≤ a.tdiv c := Int.tdiv_nonneg ha (by omega)
  have h2 : a.tdiv c ≤ a := Int.tdiv_le_self _ ha
  exact ⟨wrap64 (by omega), h1, by omega⟩
theorem TraceIs.take {ρ : Heap} {p : Option Addr} {es : List Ev} (h : TraceIs ρ p es) (n : Nat) (hn : n ≤ es.length) : TraceIs ρ p (es.take n) := by
  obtain ⟨⟨h1, h2⟩, h3⟩ := h
  have hl : (es.take n).length = n := by rw [List.length_take]; omega
  have hf : ∀ l : List Ev, (l.flatMap Ev.cells).length = l.length * 19 := by
    intro l
    induction l with
    | nil => rfl
    | cons x l ih => rw [List.flatMap_cons, List.length_append, ih, Ev.cells_len, List.length_cons]; omega
  refine ⟨⟨hf _, ?_⟩, fun e he => h3 e (List.mem_of_mem_take he)⟩
  cases p with
  | none => have h2' : es.length = 0 := h2; show (es.take n).length = 0; rw [hl]; omega
  | some a =>
    rcases h2 with h0 | ⟨hs, cs, T, fz, hb, hc⟩
    · exact .inl (by rw [hl]; omega)
    refine .inr ⟨hs, cs, T, fz, hb, fun i hi => ?_⟩
    rw [hc i (by rw [hl] at hi; omega)]
    have e1 : es.flatMap Ev.cells = (es.take n).flatMap Ev.cells ++ (es.drop n).flatMap Ev.cells := by rw [← List.flatMap_append, List.take_append_drop]
    rw [e1, List.getElem?_append_left (by rw [hf]; exact hi)]
end Go.Cs
