/- Rows of cells in normal form: what 'rfl' finds by these is written out. -/
import Derived.Test.YtdgdbnkhmdncdaaGwP
set_option linter.unusedSectionVars false
set_option linter.unusedSimpArgs false
set_option linter.unusedVariables false
namespace Go.Gw
variable [Env]
section
variable {P : Program}
theorem QOp.eq {n : Nat} {o : Op} {ty : TypeId} {l : Slots} {σ : Heap} {v v' : Value} (h : QOp P n o ty l σ v) (e : v = v') : QOp P n o ty l σ v' := e ▸ h
/-- A list, written out. -/
def rebuild : List Value → Option (List Value)
  | [] => some []
  | x :: xs => match rebuild xs with
    | some ys => some (x :: ys)
    | none => none
theorem rebuild_eq : ∀ (l : List Value), rebuild l = some l
  | [] => rfl
  | x :: xs => by simp [rebuild, rebuild_eq xs]
theorem rebuild_some {l m : List Value} (h : rebuild l = some m) : l = m := by rw [rebuild_eq] at h; exact Option.some.inj h
def cellsN : Value → Option (Array Value)
  | .agg cs => some cs
  | v => some #[v]
theorem cellsN_eq {v : Value} {cs : Array Value} (h : cellsN v = some cs) : v.cells = cs := by
  cases v <;> simp [cellsN] at h <;> simp [Value.cells, h]
def rowN (cs : Array Value) (o n : Nat) : Option (List Value) := if o + n ≤ cs.size then rebuild ((cs.toList.drop o).take n) else none
theorem rowN_row {cs : Array Value} {o n : Nat} {vs : List Value} (h : rowN cs o n = some vs) : row cs o n = some vs := by
  unfold rowN at h
  unfold row
  split at h
  · rename_i hle; rw [if_pos hle, ← rebuild_eq]; exact h
  · cases h
theorem row_partN {cs : Array Value} {o m : Nat} {vs us : List Value} (h : row cs o m = some vs) (j k : Nat) (hk : 0 < k) (hu : rebuild ((vs.drop j).take k) = some us) (hl : Nat.beq us.length k = true) : row cs (o + j) k = some us :=
  row_part h j k hk (Nat.eq_of_beq_eq_true hl) (rebuild_some hu)
def setL : List Value → Nat → List Value → List Value
  | [], _, _ => []
  | c :: cs, 0, [] => c :: cs
  | _ :: cs, 0, v :: vs => v :: setL cs 0 vs
  | c :: cs, o + 1, vs => c :: setL cs o vs
theorem setL_get : ∀ (l : List Value) (o : Nat) (vs : List Value) (i : Nat), (setL l o vs)[i]? = if o ≤ i ∧ i < o + vs.length ∧ i < l.length then vs[i - o]? else l[i]?
  | [], o, vs, i => by simp [setL]
  | c :: cs, 0, [], i => by simp [setL]
  | c :: cs, 0, v :: vs, 0 => by simp [setL]
  | c :: cs, 0, v :: vs, i + 1 => by
    simp only [setL, List.getElem?_cons_succ, setL_get cs 0 vs i, List.length_cons]
    by_cases h : i < vs.length ∧ i < cs.length
    · rw [if_pos ⟨Nat.zero_le _, by omega, h.2⟩, if_pos ⟨Nat.zero_le _, by omega, by omega⟩]; simp
    · rw [if_neg (by omega), if_neg (by omega)]
  | c :: cs, o + 1, vs, 0 => by simp [setL]
  | c :: cs, o + 1, vs, i + 1 => by
    simp only [setL, List.getElem?_cons_succ, setL_get cs o vs i, List.length_cons]
    by_cases h : o ≤ i ∧ i < o + vs.length ∧ i < cs.length
    · rw [if_pos h, if_pos ⟨by omega, by omega, by omega⟩, Nat.add_sub_add_right]
    · rw [if_neg h, if_neg (by omega)]
theorem setRow_list (cs : Array Value) (o : Nat) (vs : List Value) : (setRow cs o vs).toList = setL cs.toList o vs := by
  apply List.ext_getElem?
  intro i
  rw [Array.getElem?_toList, setRow_get, setL_get]
  simp
def storeN (cs : Array Value) (o : Nat) (vs : List Value) : Option (Array Value) := match rebuild (setL cs.toList o vs) with
  | some l => some l.toArray
  | none => none
theorem storeN_row {cs cs' : Array Value} {o : Nat} {vs : List Value} (h : storeN cs o vs = some cs') : setRow cs o vs = cs' := by
  unfold storeN at h
  rw [rebuild_eq] at h
  simp only [Option.some.injEq] at h
  rw [← h, ← setRow_list]
theorem fold_setRow (off : Nat) : ∀ (vs : List Value) (k : Nat) (cells : Array Value), (vs.zipIdx k).foldl (fun cs (x : Value × Nat) => cs.setIfInBounds (off + x.2) x.1) cells = setRow cells (off + k) vs
  | [], k, cells => rfl
  | v :: vs, k, cells => by
    rw [List.zipIdx_cons, List.foldl_cons, fold_setRow off vs (k + 1)]; rfl
def fillN (place : Nat → Option (Nat × Nat)) : List Value → List (Nat × Value) → Option (Array Value)
  | z, [] => some z.toArray
  | z, (i, v) :: rest => match place i with
    | none => none
    | some (off, size) => if v.cells.size = size ∧ off + size ≤ z.length then (match rebuild (setL z off v.cells.toList) with
      | some z' => fillN place z' rest
      | none => none) else none
theorem fillN_fill {place : Nat → Option (Nat × Nat)} : ∀ {parts : List (Nat × Value)} {z cs : Array Value}, fillN place z.toList parts = some cs → Instr.fill place z parts = some cs
  | [], z, cs, h => by simpa [fillN, Instr.fill] using h
  | (i, v) :: rest, z, cs, h => by
    unfold fillN at h
    unfold Instr.fill
    cases hp : place i with
    | none => rw [hp] at h; cases h
    | some x =>
      obtain ⟨off, size⟩ := x
      rw [hp] at h
      simp only [rebuild_eq] at h ⊢
      by_cases hc : v.cells.size = size ∧ off + size ≤ z.toList.length
      · rw [if_pos hc] at h
        obtain ⟨h1, h2⟩ := hc
        have h2' : ¬ z.size < off + v.cells.size := by rw [h1]; simp at h2; omega
        have e : v.cells.zipIdx.foldl (fun cs (x : Value × Nat) => cs.setIfInBounds (off + x.2) x.1) z = setRow z off v.cells.toList := by
          rw [← Array.foldl_toList, Array.toList_zipIdx, fold_setRow]; rfl
        have e2 : fillN place (setRow z off v.cells.toList).toList rest = some cs := by rw [setRow_list]; exact h
        have := fillN_fill e2
        rw [← e] at this
        have h2'' : off + size ≤ z.size := by simpa using h2
        simpa [h1, h2', h2''] using this
      · rw [if_neg hc] at h; cases h
end
end Go.Gw
