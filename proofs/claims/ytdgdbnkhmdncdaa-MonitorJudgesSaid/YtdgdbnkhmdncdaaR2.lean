/- MonitorJudges: a monitor that was told a whole trace says what the judge says of it, so at its first breach: whatever the trace, the law answers true, and the trace reads as it did. No condition. -/
import Derived.Test.YtdgdbnkhmdncdaaR1
import Derived.Test.YtdgdbnkhmdncdaaRows
import Derived.ProofKit
import Derived.SizedLaws
import Derived.Carry
set_option linter.unusedSectionVars false
set_option linter.unusedSimpArgs false
set_option linter.unusedVariables false
namespace Go.Proofs.Ytdgdbnkhmdncdaa
open Go.ChangeShapes Go.WideShapes Go.ChangeAt Go.RowKit
theorem mj_own : ownKnob Try.prog.godebug = none := by kernel_rfl
theorem mj_laid : laidOutB Try.prog = true := by kernel_rfl
theorem same_of {W W' : World} (h : ∀ b, b < W.heap.size → W'.heap[b]? = W.heap[b]?) {p : MemPlace} (hp : p.block < W.heap.size) : W.sameAt W' p := by
  cases p with
  | cell b o => exact World.cell?_of_block (w := W) (h b hp)
  | map b => exact h b hp
set_option maxRecDepth 100000 in
theorem mj_lifted (os : Os) (started : os.Started) (H : Type) (enc : TypeId × Value → H) :
    ReturnsInHanded {} Try.checked os 3 .any (Rows.monitorJudgesSpec.pre6 enc Try.prog Try.f3 Rows.monitorJudgesRow.domain false) (Rows.monitorJudgesSpec.post enc Try.prog Try.f3 false true false false) := by
  refine returnsInHanded_of_change_sized (C := Try.checked) mj_own started (by kernel_rfl) Try.func3
    (ChangeSpec.witness6 (enc := enc) (C := Try.checked) false ⟨#[], #[.slice none 0 0], []⟩ 8 (by kernel_rfl) (by kernel_rfl) (by kernel_rfl) (by kernel_rfl)) ?_
  intro W base args ds gs before hval0 hW _ hsz0 _
  have hsz : (DataW.weightsEach Try.prog (Try.f3.params.toList ++ Rows.monitorJudgesSpec.plain.varTypes Try.prog) (ds ++ gs)).all (· ≤ reachBytes) = true := hsz0
  clear hsz0
  have hval : ∀ (j : Nat) t v, Try.f3.params[j]? = some t → args[j]? = some v → Value.okWide Try.prog W .any base t v := hval0
  have hW' := hW
  obtain ⟨p, q, hA0, hV, rfl, _, _⟩ := hW
  have hA : DataW.TrodAll enc Try.prog W 0 (fun _ => true) true Try.f3.params.toList args.toList ds p := hA0
  rw [Try.params3] at hA hval hsz
  obtain ⟨v0, d0, rfl, rfl, h0⟩ := trodAll_one hA
  obtain ⟨rfl, rfl⟩ := trodVars_none hV
  obtain ⟨a0, len, cap, rfl⟩ := okWide_slice Try.underlying22 (hval 0 22 v0 rfl rfl)
  have h0k := h0
  obtain ⟨fuel, hf⟩ := h0
  clear hA0 hval0
  simp only [List.append_nil] at hW'
  have hlt : ∀ x ∈ p, x.block < W.heap.size := fun x hx => by simpa using hW'.lt x hx
  letI env : Gw.Env := ⟨W.os, W.output⟩
  have hw : Wt 22 d0 := fun n hn => by
    have := List.all_eq_true.1 hsz n (DataW.weights_mem_each (j := 0) (t := 22) (d := d0) rfl rfl n hn)
    simpa using this
  obtain ⟨pp, c, es, hv, hT, hcap⟩ := trace_of (x := (d0, p)) (by simpa [Value.cells] using hf) hw
  have hsat : Gw.Sat W (full W) := ⟨fun b o h => h, rfl, rfl⟩
  rw [hv] at h0k hW' ⊢
  refine (mjudges_spec (full W) es pp c hT hcap W hsat).mono fun e W' ⟨v, τ, he, hs, hr, ht⟩ => ?_
  subst he hr
  rw [← ht] at hs
  have hblk : ∀ b, b < W.heap.size → W'.heap[b]? = W.heap[b]? := fun b hb => by
    have h1 : W.heap[b]? = some W.heap[b] := Array.getElem?_eq_getElem hb
    rw [h1]; exact hs.heap b _ h1
  refine ⟨_, rfl, _, _, _, [], p, [], hW', ?_, ?_, rfl, ?_, fun h => by cases h⟩
  · exact trodAll_mk1 (shut_bool Try.underlying4 true)
  · have : DataW.Trod enc Try.prog W' 0 (fun b => decide (b < W.heap.size)) true 22 (.slice pp es.length c) d0 p := WideElems.Trod_stays mj_laid (by kernel_rfl) (of_decide_eq_true (by kernel_rfl)) h0k (fun x hx => same_of hblk (hlt x hx)) (fun x hx => by simpa using hlt x hx)
    exact trodAll_mk1 this
  · refine ⟨hs.os, hs.out, fun i hi => ?_⟩
    rw [hblk i hi]
    split <;> simp_all
theorem monitorJudges_holds : Rows.MonitorJudgesSaid :=
  OpenClaim.holds_of_wide 3 Try.f3 rfl rfl rfl rfl rfl rfl rfl ⟨rfl, rfl, rfl, rfl, rfl⟩ rfl rfl rfl rfl rfl (by kernel_rfl) Try.func3 (by kernel_rfl)
    (of_decide_eq_true (by kernel_rfl)) (by unfold Func.isWrapper; rw [if_neg (of_decide_eq_false (by kernel_rfl))]; exact ⟨rfl, rfl⟩)
    (fun os started H enc _ => mj_lifted os started H enc)
#print axioms monitorJudges_holds
end Go.Proofs.Ytdgdbnkhmdncdaa
