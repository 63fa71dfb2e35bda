/- Contracts of Go's library functions on slices, and of what compares messages. -/
import Derived.Test.YtdgdbnkhmdncdaaH1
import Derived.Test.YtdgdbnkhmdncdaaH2
set_option linter.unusedSectionVars false
set_option linter.unusedSimpArgs false
set_option linter.unusedVariables false
namespace Go.Proofs.Ytdgdbnkhmdncdaa
open Go.Gw Go.Cs
variable [Env]
namespace FH3
theorem ac_103 : aggCells Try.prog 103 = some (some 8) := by kernel_rfl
theorem ac_28 : aggCells Try.prog 28 = some none := by kernel_rfl
theorem ac_3 : aggCells Try.prog 3 = some none := by kernel_rfl
theorem ac_31 : aggCells Try.prog 31 = some none := by kernel_rfl
theorem ac_32 : aggCells Try.prog 32 = some none := by kernel_rfl
theorem ac_34 : aggCells Try.prog 34 = some (some 6) := by kernel_rfl
theorem ac_9 : aggCells Try.prog 9 = some none := by kernel_rfl
theorem ca_44 : callable Try.prog 44 = true := by kernel_rfl
theorem ca_53 : callable Try.prog 53 = true := by kernel_rfl
theorem ca_59 : callable Try.prog 59 = true := by kernel_rfl
theorem fo_34_0 : fieldOff Try.prog 34 0 = some 0 := by kernel_rfl
theorem fo_34_1 : fieldOff Try.prog 34 1 = some 1 := by kernel_rfl
theorem fo_34_2 : fieldOff Try.prog 34 2 = some 2 := by kernel_rfl
theorem fo_34_3 : fieldOff Try.prog 34 3 = some 3 := by kernel_rfl
theorem fo_34_4 : fieldOff Try.prog 34 4 = some 4 := by kernel_rfl
theorem fo_34_5 : fieldOff Try.prog 34 5 = some 5 := by kernel_rfl
theorem sb_31 : sizeBytes Try.prog 31 = some (1, 4) := by kernel_rfl
theorem se_32 : sliceElem Try.prog 32 = some 1 := by kernel_rfl
theorem se_60 : sliceElem Try.prog 60 = some 6 := by kernel_rfl
theorem se_99 : sliceElem Try.prog 99 = some 8 := by kernel_rfl
theorem so_32 : sliceOf Try.prog 32 = some (31, 1) := by kernel_rfl
theorem zo_31 : zeroOf Try.prog 31 = some #[.int .u32 0] := by kernel_rfl
end FH3
open FH3

theorem flat_u32 (xs : List Int) : ∀ v ∈ xs.flatMap u32, flat v = true := by
  intro v hv
  obtain ⟨x, _, hx⟩ := List.mem_flatMap.1 hv
  simp [u32] at hx; subst hx; rfl

theorem take_step {X : Type} [BEq X] [LawfulBEq X] {xs ys : List X} {i : Nat} {a b : X} (h : xs.take i = ys.take i) (ha : xs[i]? = some a) (hb : ys[i]? = some b) (e : a = b) : xs.take (i + 1) = ys.take (i + 1) := by
  rw [List.take_add_one, List.take_add_one, h, ha, hb, e]

theorem equal_spec (σ : Heap) (p q : Option Addr) (n k cp cq : Nat) (xs ys : List Int) (hx : Rd σ 1 p n (xs.flatMap u32)) (hy : Rd σ 1 q k (ys.flatMap u32)) (hb : n * 4 ≤ 140737488355328) : Does Try.prog 44 #[.slice p n cp, .slice q k cq] σ (fun v τ => v = .bool (xs == ys) ∧ σ = τ) := by
  refine Does.enter (n := 26) (l := [(0, _), (1, _)]) Try.func44 rfl rfl (by simp) rfl ?_
  have hn := Rd.len u32_len (by decide) hx
  have hk := Rd.len u32_len (by decide) hy
  subst hn hk
  refine St.seq ?_
  refine St.region rfl ?_
  refine Reg.q rfl rfl rfl (q_assign rfl) ?_
  refine Reg.done ?_
  refine St.keep [0, 1, 4] ?_
  show St _ _ _ [(4, _), (0, _), (1, _)] _ _ _
  refine St.seq ?_
  refine St.seq ?_
  refine St.region rfl ?_
  refine Reg.q rfl rfl rfl (q_move rfl) ?_
  refine Reg.q rfl rfl rfl (q_lenS rfl se_32 rfl) ?_
  refine Reg.q rfl rfl rfl (q_move rfl) ?_
  refine Reg.q rfl rfl rfl (q_lenS rfl se_32 rfl) ?_
  refine Reg.q rfl rfl rfl (q_ine rfl rfl) ?_
  refine Reg.done ?_
  refine St.keep [4, 0, 1, 10] ?_
  show St _ _ _ [(10, _), (4, _), (0, _), (1, _)] _ _ _
  refine St.cond rfl (fun hc0 => ?_) (fun hc0 => ?_)
  · skip
    refine St.seq ?_
    refine St.region rfl ?_
    refine Reg.q rfl rfl rfl (q_assign rfl) ?_
    refine Reg.done ?_
    refine St.keep [10, 4, 0, 1] ?_
    show St _ _ _ [(4, _), (10, _), (4, _), (0, _), (1, _)] _ _ _
    refine St.ret Try.func44 (.tmp rfl .nil) (Sub.rfl' _) ?_
    exact ⟨by simp at hc0; simp [one]; intro h; exact hc0 (by rw [h]), rfl⟩
  · simp at hc0; have hl : xs.length = ys.length := by omega
    refine St.skip ?_
    refine St.seq ?_
    refine St.seq ?_
    refine St.region rfl ?_
    refine Reg.q rfl rfl rfl (q_move rfl) ?_
    refine Reg.q rfl rfl rfl (q_lenS rfl se_32 rfl) ?_
    refine Reg.q rfl rfl rfl (q_move rfl) ?_
    refine Reg.done ?_
    refine St.keep [10, 4, 0, 1, 12, 13] ?_
    show St _ _ _ [(13, _), (12, _), (10, _), (4, _), (0, _), (1, _)] _ _ _
    refine St.block ?_
    refine St.loopw (Y := Nat) (fun i => [(13, .int .i64 (i : Nat))]) [12, 10, 4, 0, 1] (fun i τ => τ = σ ∧ i ≤ xs.length ∧ xs.take i = ys.take i) (fun i => xs.length - i) (0) rfl (⟨rfl, Nat.zero_le _, by simp⟩) ?_
    intro i τ ⟨hτ, hi⟩ back
    subst hτ
    show St _ _ _ [(13, _), (12, _), (10, _), (4, _), (0, _), (1, _)] _ _ _
    refine St.seq ?_
    refine St.region rfl ?_
    refine Reg.q rfl rfl rfl (q_lt rfl rfl) ?_
    refine Reg.done ?_
    refine St.keep [13, 12, 10, 4, 0, 1, 14] ?_
    show St _ _ _ [(14, _), (13, _), (12, _), (10, _), (4, _), (0, _), (1, _)] _ _ _
    refine St.seq ?_
    refine St.cond rfl (fun hc1 => ?_) (fun hc1 => ?_)
    · simp at hc1
      obtain ⟨b1, o1, cs1, T1, f1, rfl, hb1, hl1, hr1⟩ := Rd.row u32_len (by decide) hx (List.getElem?_eq_getElem hc1)
      obtain ⟨b2, o2, cs2, T2, f2, rfl, hb2, hl2, hr2⟩ := Rd.row u32_len (by decide) hy (List.getElem?_eq_getElem (hl ▸ hc1))
      refine St.skip ?_
      refine St.seq ?_
      refine St.block ?_
      refine St.seq ?_
      refine St.region rfl ?_
      refine Reg.q rfl rfl rfl (q_move rfl) ?_
      refine Reg.q rfl rfl rfl (q_assign rfl) ?_
      refine Reg.done ?_
      refine St.keep [14, 13, 12, 10, 4, 0, 1, 5] ?_
      show St _ _ _ [(5, _), (14, _), (13, _), (12, _), (10, _), (4, _), (0, _), (1, _)] _ _ _
      refine St.seq ?_
      refine St.draw0 [] [(0, .w), (1, .w), (2, .w), (3, .r), (4, .w), (5, .w), (6, .w), (7, .r), (8, .w)] mixed (by kernel_rfl) rfl ?_
      refine Dr.w rfl rfl rfl rfl (q_move rfl) ?_
      refine Dr.w rfl rfl rfl rfl (q_move rfl) ?_
      refine Dr.w rfl rfl rfl rfl (q_indexAt se_32 rfl rfl rfl (by omega) rfl) ?_
      refine Dr.r rfl rfl rfl rfl (Sub.rfl' _) (q_load1 ac_31 rfl hb1 (row_cell hr1 0 rfl)) ?_
      refine Dr.w rfl rfl rfl rfl (q_move rfl) ?_
      refine Dr.w rfl rfl rfl rfl (q_move rfl) ?_
      refine Dr.w rfl rfl rfl rfl (q_indexAt se_32 rfl rfl rfl (by omega) rfl) ?_
      refine Dr.r rfl rfl rfl rfl (Sub.rfl' _) (q_load1 ac_31 rfl hb2 (row_cell hr2 0 rfl)) ?_
      refine Dr.w rfl rfl rfl rfl (q_ine rfl rfl) ?_
      refine Dr.done ?_
      refine St.keep [5, 14, 13, 12, 10, 4, 0, 1, 24] ?_
      show St _ _ _ [(24, _), (5, _), (14, _), (13, _), (12, _), (10, _), (4, _), (0, _), (1, _)] _ _ _
      refine St.cond rfl (fun hc2 => ?_) (fun hc2 => ?_)
      · have hne : xs ≠ ys := by
          simp at hc2
          intro h; subst h; exact hc2 rfl
        refine St.seq ?_
        refine St.region rfl ?_
        refine Reg.q rfl rfl rfl (q_assign rfl) ?_
        refine Reg.done ?_
        refine St.keep [24, 5, 14, 13, 12, 10, 4, 0, 1] ?_
        show St _ _ _ [(4, _), (24, _), (5, _), (14, _), (13, _), (12, _), (10, _), (4, _), (0, _), (1, _)] _ _ _
        refine St.ret Try.func44 (.tmp rfl .nil) (Sub.rfl' _) ?_
        exact ⟨by simp [one]; exact hne, rfl⟩
      · simp at hc2
        refine St.skip ?_
        refine St.inBlock ?_
        refine St.region rfl ?_
        refine Reg.q rfl rfl rfl (q_add rfl rfl (inc64 (by omega))) ?_
        refine Reg.q rfl rfl rfl (q_move rfl) ?_
        refine Reg.done ?_
        refine St.keep [24, 5, 14, 13, 12, 10, 4, 0, 1] ?_
        show St _ _ _ [(13, _), (24, _), (5, _), (14, _), (13, _), (12, _), (10, _), (4, _), (0, _), (1, _)] _ _ _
        refine St.conv (SubL.list (by rfl)) (Sub.rfl' _) (back (i + 1) _ ?_ ?_)
        · exact ⟨rfl, by omega, take_step hi.2 (List.getElem?_eq_getElem hc1) (List.getElem?_eq_getElem (hl ▸ hc1)) hc2⟩
        · omega
    · skip
      refine St.exit rfl ?_
      refine St.seq ?_
      refine St.region rfl ?_
      refine Reg.q rfl rfl rfl (q_assign rfl) ?_
      refine Reg.done ?_
      refine St.keep [14, 13, 12, 10, 4, 0, 1] ?_
      show St _ _ _ [(4, _), (14, _), (13, _), (12, _), (10, _), (4, _), (0, _), (1, _)] _ _ _
      refine St.ret Try.func44 (.tmp rfl .nil) (Sub.rfl' _) ?_
      exact ⟨by simp [one]; have h1 := hi.2; rw [List.take_of_length_le (by simp at hc1; omega), List.take_of_length_le (by simp at hc1; omega)] at h1; exact h1, rfl⟩

theorem jsame_spec (σ : Heap) (a b : Msg) (ha : a.ok σ) (hb : b.ok σ) : Does Try.prog 34 #[a.v, b.v] σ (fun v τ => v = .bool (same a b) ∧ σ = τ) := by
  refine Does.enter (n := 45) (l := [(0, _), (1, _)]) Try.func34 rfl rfl (by simp) rfl ?_
  have hsub : Sub σ σ := Sub.rfl' σ
  refine St.seq ?_
  refine St.region rfl ?_
  refine Reg.x rfl rfl rfl (e_box rfl (cellsN_eq rfl) (fun b2 τ2 hb2 => ?_))
  have h2 := hb2.at_
  replace hsub := hsub.trans hb2.sub
  refine Reg.x rfl rfl rfl (e_box rfl (cellsN_eq rfl) (fun b3 τ3 hb3 => ?_))
  replace h2 := hb3.sub _ _ h2
  have h3 := hb3.at_
  replace hsub := hsub.trans hb3.sub
  refine Reg.q rfl rfl rfl (q_assign rfl) ?_
  refine Reg.done ?_
  refine St.keep [0, 1, 2, 3, 4] ?_
  show St _ _ _ [(4, _), (3, _), (2, _), (0, _), (1, _)] _ _ _
  refine St.seq ?_
  refine St.region rfl ?_
  refine Reg.q rfl rfl rfl (q_fieldAddr fo_34_0 rfl rfl) ?_
  refine Reg.q rfl rfl rfl (q_load1 ac_3 rfl (by assumption) rfl) ?_
  refine Reg.q rfl rfl rfl (q_fieldAddr fo_34_0 rfl rfl) ?_
  refine Reg.q rfl rfl rfl (q_load1 ac_3 rfl (by assumption) rfl) ?_
  refine Reg.q rfl rfl rfl (q_ieq rfl rfl) ?_
  refine Reg.q rfl rfl rfl (q_move rfl) ?_
  refine Reg.joinv 16 (.bool (a.frm == b.frm && a.seq == b.seq)) 6 [4, 3, 2, 0, 1, 5, 6, 7, 8, 9] (fun hk1_11 => ?_) ?_
  · skip
    refine Reg.split (d := 10) rfl (fun hg10 => ?_) (fun hg10 => ?_)
    · skip
      refine Reg.q rfl rfl rfl (q_fieldAddr fo_34_1 rfl rfl) ?_
      refine Reg.q rfl rfl rfl (q_load1 ac_31 rfl (by assumption) rfl) ?_
      refine Reg.q rfl rfl rfl (q_fieldAddr fo_34_1 rfl rfl) ?_
      refine Reg.q rfl rfl rfl (q_load1 ac_31 rfl (by assumption) rfl) ?_
      refine Reg.q rfl rfl rfl (q_ieq rfl rfl) ?_
      refine Reg.q rfl rfl rfl (q_pickT rfl rfl) ?_
      exact Reg.meet 7 [4, 3, 2, 0, 1, 5, 6, 7, 8, 9] hk1_11 rfl (by simp only [hg10, Bool.true_or, Bool.false_or, Bool.true_and, Bool.false_and, Bool.not_true, Bool.not_false]) rfl rfl
    · skip
      refine Reg.skip rfl rfl rfl ?_
      refine Reg.skip rfl rfl rfl ?_
      refine Reg.skip rfl rfl rfl ?_
      refine Reg.skip rfl rfl rfl ?_
      refine Reg.skip rfl rfl rfl ?_
      refine Reg.q rfl rfl rfl (q_pickF rfl rfl) ?_
      exact Reg.meet 7 [4, 3, 2, 0, 1, 5, 6, 7, 8, 9] hk1_11 rfl (by simp only [hg10, Bool.true_or, Bool.false_or, Bool.true_and, Bool.false_and, Bool.not_true, Bool.not_false]) rfl rfl
  · skip
    refine Reg.q rfl rfl rfl (q_move rfl) ?_
    refine Reg.joinv 23 (.bool (a.frm == b.frm && a.seq == b.seq && a.stamp == b.stamp)) 6 [4, 3, 2, 0, 1, 5, 6, 7, 8, 9, 16] (fun hk1_18 => ?_) ?_
    · skip
      refine Reg.split (d := 17) rfl (fun hg17 => ?_) (fun hg17 => ?_)
      · skip
        refine Reg.q rfl rfl rfl (q_fieldAddr fo_34_2 rfl rfl) ?_
        refine Reg.q rfl rfl rfl (q_load1 ac_28 rfl (by assumption) rfl) ?_
        refine Reg.q rfl rfl rfl (q_fieldAddr fo_34_2 rfl rfl) ?_
        refine Reg.q rfl rfl rfl (q_load1 ac_28 rfl (by assumption) rfl) ?_
        refine Reg.q rfl rfl rfl (q_ieq rfl rfl) ?_
        refine Reg.q rfl rfl rfl (q_pickT rfl rfl) ?_
        exact Reg.meet 7 [4, 3, 2, 0, 1, 5, 6, 7, 8, 9, 16] hk1_18 rfl (by simp only [hg17, Bool.true_or, Bool.false_or, Bool.true_and, Bool.false_and, Bool.not_true, Bool.not_false]) rfl rfl
      · skip
        refine Reg.skip rfl rfl rfl ?_
        refine Reg.skip rfl rfl rfl ?_
        refine Reg.skip rfl rfl rfl ?_
        refine Reg.skip rfl rfl rfl ?_
        refine Reg.skip rfl rfl rfl ?_
        refine Reg.q rfl rfl rfl (q_pickF rfl rfl) ?_
        exact Reg.meet 7 [4, 3, 2, 0, 1, 5, 6, 7, 8, 9, 16] hk1_18 rfl (by simp only [hg17, Bool.true_or, Bool.false_or, Bool.true_and, Bool.false_and, Bool.not_true, Bool.not_false]) rfl rfl
    · skip
      refine Reg.q rfl rfl rfl (q_move rfl) ?_
      refine Reg.joinv 30 (.bool (a.frm == b.frm && a.seq == b.seq && a.stamp == b.stamp && a.svc == b.svc)) 6 [4, 3, 2, 0, 1, 5, 6, 7, 8, 9, 16, 23] (fun hk1_25 => ?_) ?_
      · skip
        refine Reg.split (d := 24) rfl (fun hg24 => ?_) (fun hg24 => ?_)
        · skip
          refine Reg.q rfl rfl rfl (q_fieldAddr fo_34_3 rfl rfl) ?_
          refine Reg.q rfl rfl rfl (q_load1 ac_3 rfl (by assumption) rfl) ?_
          refine Reg.q rfl rfl rfl (q_fieldAddr fo_34_3 rfl rfl) ?_
          refine Reg.q rfl rfl rfl (q_load1 ac_3 rfl (by assumption) rfl) ?_
          refine Reg.q rfl rfl rfl (q_ieq rfl rfl) ?_
          refine Reg.q rfl rfl rfl (q_pickT rfl rfl) ?_
          exact Reg.meet 7 [4, 3, 2, 0, 1, 5, 6, 7, 8, 9, 16, 23] hk1_25 rfl (by simp only [hg24, Bool.true_or, Bool.false_or, Bool.true_and, Bool.false_and, Bool.not_true, Bool.not_false]) rfl rfl
        · skip
          refine Reg.skip rfl rfl rfl ?_
          refine Reg.skip rfl rfl rfl ?_
          refine Reg.skip rfl rfl rfl ?_
          refine Reg.skip rfl rfl rfl ?_
          refine Reg.skip rfl rfl rfl ?_
          refine Reg.q rfl rfl rfl (q_pickF rfl rfl) ?_
          exact Reg.meet 7 [4, 3, 2, 0, 1, 5, 6, 7, 8, 9, 16, 23] hk1_25 rfl (by simp only [hg24, Bool.true_or, Bool.false_or, Bool.true_and, Bool.false_and, Bool.not_true, Bool.not_false]) rfl rfl
      · skip
        refine Reg.q rfl rfl rfl (q_move rfl) ?_
        refine Reg.joinv 37 (.bool (a.frm == b.frm && a.seq == b.seq && a.stamp == b.stamp && a.svc == b.svc && a.pay.toList == b.pay.toList)) 6 [4, 3, 2, 0, 1, 5, 6, 7, 8, 9, 16, 23, 30] (fun hk1_32 => ?_) ?_
        · skip
          refine Reg.split (d := 31) rfl (fun hg31 => ?_) (fun hg31 => ?_)
          · skip
            refine Reg.q rfl rfl rfl (q_fieldAddr fo_34_5 rfl rfl) ?_
            refine Reg.q rfl rfl rfl (q_load1 ac_9 rfl (by assumption) rfl) ?_
            refine Reg.q rfl rfl rfl (q_fieldAddr fo_34_5 rfl rfl) ?_
            refine Reg.q rfl rfl rfl (q_load1 ac_9 rfl (by assumption) rfl) ?_
            refine Reg.q rfl rfl rfl (q_seq rfl rfl) ?_
            refine Reg.q rfl rfl rfl (q_pickT rfl rfl) ?_
            exact Reg.meet 7 [4, 3, 2, 0, 1, 5, 6, 7, 8, 9, 16, 23, 30] hk1_32 rfl (by simp only [hg31, Bool.true_or, Bool.false_or, Bool.true_and, Bool.false_and, Bool.not_true, Bool.not_false]) rfl rfl
          · skip
            refine Reg.skip rfl rfl rfl ?_
            refine Reg.skip rfl rfl rfl ?_
            refine Reg.skip rfl rfl rfl ?_
            refine Reg.skip rfl rfl rfl ?_
            refine Reg.skip rfl rfl rfl ?_
            refine Reg.q rfl rfl rfl (q_pickF rfl rfl) ?_
            exact Reg.meet 7 [4, 3, 2, 0, 1, 5, 6, 7, 8, 9, 16, 23, 30] hk1_32 rfl (by simp only [hg31, Bool.true_or, Bool.false_or, Bool.true_and, Bool.false_and, Bool.not_true, Bool.not_false]) rfl rfl
        · skip
          refine Reg.q rfl rfl rfl (q_move rfl) ?_
          refine Reg.joinv 44 (.bool (same a b)) 6 [4, 3, 2, 0, 1, 5, 6, 7, 8, 9, 16, 23, 30, 37] (fun hk1_39 => ?_) ?_
          · skip
            refine Reg.split (d := 38) rfl (fun hg38 => ?_) (fun hg38 => ?_)
            · skip
              refine Reg.q rfl rfl rfl (q_fieldAddr fo_34_4 rfl rfl) ?_
              refine Reg.q rfl rfl rfl (q_load1 ac_32 rfl (by assumption) rfl) ?_
              refine Reg.q rfl rfl rfl (q_fieldAddr fo_34_4 rfl rfl) ?_
              refine Reg.q rfl rfl rfl (q_load1 ac_32 rfl (by assumption) rfl) ?_
              refine Reg.x rfl rfl rfl (e_callF rfl rfl rfl ca_44 ((equal_spec _ _ _ _ _ _ _ _ _ (Rd.up ha.1 hsub) (Rd.up hb.1 hsub) ha.2).mono fun v43 τ43 h43 => ?_))
              obtain ⟨rfl, rfl⟩ := h43
              refine Reg.q rfl rfl rfl (q_pickT rfl rfl) ?_
              exact Reg.meet 7 [4, 3, 2, 0, 1, 5, 6, 7, 8, 9, 16, 23, 30, 37] hk1_39 rfl (by simp only [same, hg38, Bool.true_and, Bool.false_and]) rfl rfl
            · skip
              refine Reg.skip rfl rfl rfl ?_
              refine Reg.skip rfl rfl rfl ?_
              refine Reg.skip rfl rfl rfl ?_
              refine Reg.skip rfl rfl rfl ?_
              refine Reg.skip rfl rfl rfl ?_
              refine Reg.q rfl rfl rfl (q_pickF rfl rfl) ?_
              exact Reg.meet 7 [4, 3, 2, 0, 1, 5, 6, 7, 8, 9, 16, 23, 30, 37] hk1_39 rfl (by simp only [same, hg38, Bool.true_and, Bool.false_and]) rfl rfl
          · skip
            refine Reg.q rfl rfl rfl (q_assign rfl) ?_
            refine Reg.done ?_
            refine St.keep [4, 3, 2, 0, 1] ?_
            show St _ _ _ [(4, _), (4, _), (3, _), (2, _), (0, _), (1, _)] _ _ _
            refine St.ret Try.func34 (.tmp rfl .nil) hsub ?_
            exact ⟨rfl, rfl⟩

theorem msame_spec (σ : Heap) (a b : Msg) (ha : a.ok σ) (hb : b.ok σ) : Does Try.prog 26 #[a.v, b.v] σ (fun v τ => v = .bool (same a b) ∧ σ = τ) := by
  refine Does.enter (n := 45) (l := [(0, _), (1, _)]) Try.func26 rfl rfl (by simp) rfl ?_
  have hsub : Sub σ σ := Sub.rfl' σ
  refine St.seq ?_
  refine St.region rfl ?_
  refine Reg.x rfl rfl rfl (e_box rfl (cellsN_eq rfl) (fun b2 τ2 hb2 => ?_))
  have h2 := hb2.at_
  replace hsub := hsub.trans hb2.sub
  refine Reg.x rfl rfl rfl (e_box rfl (cellsN_eq rfl) (fun b3 τ3 hb3 => ?_))
  replace h2 := hb3.sub _ _ h2
  have h3 := hb3.at_
  replace hsub := hsub.trans hb3.sub
  refine Reg.q rfl rfl rfl (q_assign rfl) ?_
  refine Reg.done ?_
  refine St.keep [0, 1, 2, 3, 4] ?_
  show St _ _ _ [(4, _), (3, _), (2, _), (0, _), (1, _)] _ _ _
  refine St.seq ?_
  refine St.region rfl ?_
  refine Reg.q rfl rfl rfl (q_fieldAddr fo_34_0 rfl rfl) ?_
  refine Reg.q rfl rfl rfl (q_load1 ac_3 rfl (by assumption) rfl) ?_
  refine Reg.q rfl rfl rfl (q_fieldAddr fo_34_0 rfl rfl) ?_
  refine Reg.q rfl rfl rfl (q_load1 ac_3 rfl (by assumption) rfl) ?_
  refine Reg.q rfl rfl rfl (q_ieq rfl rfl) ?_
  refine Reg.q rfl rfl rfl (q_move rfl) ?_
  refine Reg.joinv 16 (.bool (a.frm == b.frm && a.seq == b.seq)) 6 [4, 3, 2, 0, 1, 5, 6, 7, 8, 9] (fun hk1_11 => ?_) ?_
  · skip
    refine Reg.split (d := 10) rfl (fun hg10 => ?_) (fun hg10 => ?_)
    · skip
      refine Reg.q rfl rfl rfl (q_fieldAddr fo_34_1 rfl rfl) ?_
      refine Reg.q rfl rfl rfl (q_load1 ac_31 rfl (by assumption) rfl) ?_
      refine Reg.q rfl rfl rfl (q_fieldAddr fo_34_1 rfl rfl) ?_
      refine Reg.q rfl rfl rfl (q_load1 ac_31 rfl (by assumption) rfl) ?_
      refine Reg.q rfl rfl rfl (q_ieq rfl rfl) ?_
      refine Reg.q rfl rfl rfl (q_pickT rfl rfl) ?_
      exact Reg.meet 7 [4, 3, 2, 0, 1, 5, 6, 7, 8, 9] hk1_11 rfl (by simp only [hg10, Bool.true_or, Bool.false_or, Bool.true_and, Bool.false_and, Bool.not_true, Bool.not_false]) rfl rfl
    · skip
      refine Reg.skip rfl rfl rfl ?_
      refine Reg.skip rfl rfl rfl ?_
      refine Reg.skip rfl rfl rfl ?_
      refine Reg.skip rfl rfl rfl ?_
      refine Reg.skip rfl rfl rfl ?_
      refine Reg.q rfl rfl rfl (q_pickF rfl rfl) ?_
      exact Reg.meet 7 [4, 3, 2, 0, 1, 5, 6, 7, 8, 9] hk1_11 rfl (by simp only [hg10, Bool.true_or, Bool.false_or, Bool.true_and, Bool.false_and, Bool.not_true, Bool.not_false]) rfl rfl
  · skip
    refine Reg.q rfl rfl rfl (q_move rfl) ?_
    refine Reg.joinv 23 (.bool (a.frm == b.frm && a.seq == b.seq && a.stamp == b.stamp)) 6 [4, 3, 2, 0, 1, 5, 6, 7, 8, 9, 16] (fun hk1_18 => ?_) ?_
    · skip
      refine Reg.split (d := 17) rfl (fun hg17 => ?_) (fun hg17 => ?_)
      · skip
        refine Reg.q rfl rfl rfl (q_fieldAddr fo_34_2 rfl rfl) ?_
        refine Reg.q rfl rfl rfl (q_load1 ac_28 rfl (by assumption) rfl) ?_
        refine Reg.q rfl rfl rfl (q_fieldAddr fo_34_2 rfl rfl) ?_
        refine Reg.q rfl rfl rfl (q_load1 ac_28 rfl (by assumption) rfl) ?_
        refine Reg.q rfl rfl rfl (q_ieq rfl rfl) ?_
        refine Reg.q rfl rfl rfl (q_pickT rfl rfl) ?_
        exact Reg.meet 7 [4, 3, 2, 0, 1, 5, 6, 7, 8, 9, 16] hk1_18 rfl (by simp only [hg17, Bool.true_or, Bool.false_or, Bool.true_and, Bool.false_and, Bool.not_true, Bool.not_false]) rfl rfl
      · skip
        refine Reg.skip rfl rfl rfl ?_
        refine Reg.skip rfl rfl rfl ?_
        refine Reg.skip rfl rfl rfl ?_
        refine Reg.skip rfl rfl rfl ?_
        refine Reg.skip rfl rfl rfl ?_
        refine Reg.q rfl rfl rfl (q_pickF rfl rfl) ?_
        exact Reg.meet 7 [4, 3, 2, 0, 1, 5, 6, 7, 8, 9, 16] hk1_18 rfl (by simp only [hg17, Bool.true_or, Bool.false_or, Bool.true_and, Bool.false_and, Bool.not_true, Bool.not_false]) rfl rfl
    · skip
      refine Reg.q rfl rfl rfl (q_move rfl) ?_
      refine Reg.joinv 30 (.bool (a.frm == b.frm && a.seq == b.seq && a.stamp == b.stamp && a.svc == b.svc)) 6 [4, 3, 2, 0, 1, 5, 6, 7, 8, 9, 16, 23] (fun hk1_25 => ?_) ?_
      · skip
        refine Reg.split (d := 24) rfl (fun hg24 => ?_) (fun hg24 => ?_)
        · skip
          refine Reg.q rfl rfl rfl (q_fieldAddr fo_34_3 rfl rfl) ?_
          refine Reg.q rfl rfl rfl (q_load1 ac_3 rfl (by assumption) rfl) ?_
          refine Reg.q rfl rfl rfl (q_fieldAddr fo_34_3 rfl rfl) ?_
          refine Reg.q rfl rfl rfl (q_load1 ac_3 rfl (by assumption) rfl) ?_
          refine Reg.q rfl rfl rfl (q_ieq rfl rfl) ?_
          refine Reg.q rfl rfl rfl (q_pickT rfl rfl) ?_
          exact Reg.meet 7 [4, 3, 2, 0, 1, 5, 6, 7, 8, 9, 16, 23] hk1_25 rfl (by simp only [hg24, Bool.true_or, Bool.false_or, Bool.true_and, Bool.false_and, Bool.not_true, Bool.not_false]) rfl rfl
        · skip
          refine Reg.skip rfl rfl rfl ?_
          refine Reg.skip rfl rfl rfl ?_
          refine Reg.skip rfl rfl rfl ?_
          refine Reg.skip rfl rfl rfl ?_
          refine Reg.skip rfl rfl rfl ?_
          refine Reg.q rfl rfl rfl (q_pickF rfl rfl) ?_
          exact Reg.meet 7 [4, 3, 2, 0, 1, 5, 6, 7, 8, 9, 16, 23] hk1_25 rfl (by simp only [hg24, Bool.true_or, Bool.false_or, Bool.true_and, Bool.false_and, Bool.not_true, Bool.not_false]) rfl rfl
      · skip
        refine Reg.q rfl rfl rfl (q_move rfl) ?_
        refine Reg.joinv 37 (.bool (a.frm == b.frm && a.seq == b.seq && a.stamp == b.stamp && a.svc == b.svc && a.pay.toList == b.pay.toList)) 6 [4, 3, 2, 0, 1, 5, 6, 7, 8, 9, 16, 23, 30] (fun hk1_32 => ?_) ?_
        · skip
          refine Reg.split (d := 31) rfl (fun hg31 => ?_) (fun hg31 => ?_)
          · skip
            refine Reg.q rfl rfl rfl (q_fieldAddr fo_34_5 rfl rfl) ?_
            refine Reg.q rfl rfl rfl (q_load1 ac_9 rfl (by assumption) rfl) ?_
            refine Reg.q rfl rfl rfl (q_fieldAddr fo_34_5 rfl rfl) ?_
            refine Reg.q rfl rfl rfl (q_load1 ac_9 rfl (by assumption) rfl) ?_
            refine Reg.q rfl rfl rfl (q_seq rfl rfl) ?_
            refine Reg.q rfl rfl rfl (q_pickT rfl rfl) ?_
            exact Reg.meet 7 [4, 3, 2, 0, 1, 5, 6, 7, 8, 9, 16, 23, 30] hk1_32 rfl (by simp only [hg31, Bool.true_or, Bool.false_or, Bool.true_and, Bool.false_and, Bool.not_true, Bool.not_false]) rfl rfl
          · skip
            refine Reg.skip rfl rfl rfl ?_
            refine Reg.skip rfl rfl rfl ?_
            refine Reg.skip rfl rfl rfl ?_
            refine Reg.skip rfl rfl rfl ?_
            refine Reg.skip rfl rfl rfl ?_
            refine Reg.q rfl rfl rfl (q_pickF rfl rfl) ?_
            exact Reg.meet 7 [4, 3, 2, 0, 1, 5, 6, 7, 8, 9, 16, 23, 30] hk1_32 rfl (by simp only [hg31, Bool.true_or, Bool.false_or, Bool.true_and, Bool.false_and, Bool.not_true, Bool.not_false]) rfl rfl
        · skip
          refine Reg.q rfl rfl rfl (q_move rfl) ?_
          refine Reg.joinv 44 (.bool (same a b)) 6 [4, 3, 2, 0, 1, 5, 6, 7, 8, 9, 16, 23, 30, 37] (fun hk1_39 => ?_) ?_
          · skip
            refine Reg.split (d := 38) rfl (fun hg38 => ?_) (fun hg38 => ?_)
            · skip
              refine Reg.q rfl rfl rfl (q_fieldAddr fo_34_4 rfl rfl) ?_
              refine Reg.q rfl rfl rfl (q_load1 ac_32 rfl (by assumption) rfl) ?_
              refine Reg.q rfl rfl rfl (q_fieldAddr fo_34_4 rfl rfl) ?_
              refine Reg.q rfl rfl rfl (q_load1 ac_32 rfl (by assumption) rfl) ?_
              refine Reg.x rfl rfl rfl (e_callF rfl rfl rfl ca_44 ((equal_spec _ _ _ _ _ _ _ _ _ (Rd.up ha.1 hsub) (Rd.up hb.1 hsub) ha.2).mono fun v43 τ43 h43 => ?_))
              obtain ⟨rfl, rfl⟩ := h43
              refine Reg.q rfl rfl rfl (q_pickT rfl rfl) ?_
              exact Reg.meet 7 [4, 3, 2, 0, 1, 5, 6, 7, 8, 9, 16, 23, 30, 37] hk1_39 rfl (by simp only [same, hg38, Bool.true_and, Bool.false_and]) rfl rfl
            · skip
              refine Reg.skip rfl rfl rfl ?_
              refine Reg.skip rfl rfl rfl ?_
              refine Reg.skip rfl rfl rfl ?_
              refine Reg.skip rfl rfl rfl ?_
              refine Reg.skip rfl rfl rfl ?_
              refine Reg.q rfl rfl rfl (q_pickF rfl rfl) ?_
              exact Reg.meet 7 [4, 3, 2, 0, 1, 5, 6, 7, 8, 9, 16, 23, 30, 37] hk1_39 rfl (by simp only [same, hg38, Bool.true_and, Bool.false_and]) rfl rfl
          · skip
            refine Reg.q rfl rfl rfl (q_assign rfl) ?_
            refine Reg.done ?_
            refine St.keep [4, 3, 2, 0, 1] ?_
            show St _ _ _ [(4, _), (4, _), (3, _), (2, _), (0, _), (1, _)] _ _ _
            refine St.ret Try.func26 (.tmp rfl .nil) hsub ?_
            exact ⟨rfl, rfl⟩

theorem clone_spec (σ ρ : Heap) (rs : List Asr) (hS : Stars (ro ρ :: rs) σ) (p : Option Addr) (n c : Nat) (xs : List Int) (hx : Rd ρ 1 p n (xs.flatMap u32)) (hb : n * 4 ≤ 140737488355328) : Does Try.prog 12 #[.slice p n c] σ (fun v τ => ∃ ρ' q k, v = .slice q n k ∧ Sub ρ ρ' ∧ Rd ρ' 1 q n (xs.flatMap u32) ∧ Stars (ro ρ' :: rs) τ) := by
  refine Does.enter (n := 8) (l := [(0, _)]) Try.func12 rfl rfl (by simp) rfl ?_
  have hn := Rd.len u32_len (by decide) hx
  subst hn
  refine St.seq ?_
  refine St.region rfl ?_
  refine Reg.q rfl rfl rfl (q_assign rfl) ?_
  refine Reg.done ?_
  refine St.keep [0, 2] ?_
  show St _ _ _ [(2, _), (0, _)] _ _ _
  refine St.seq ?_
  refine St.seq ?_
  refine St.region rfl ?_
  refine Reg.q rfl rfl rfl (q_move rfl) ?_
  refine Reg.q rfl rfl rfl (q_snil Try.underlying32 rfl rfl) ?_
  refine Reg.done ?_
  refine St.keep [2, 0, 4] ?_
  show St _ _ _ [(4, _), (2, _), (0, _)] _ _ _
  refine St.cond rfl (fun hc0 => ?_) (fun hc0 => ?_)
  · have hp : p = none := by simpa using hc0
    subst hp
    have h0 : xs.length = 0 := hx.2
    have h1 : xs = [] := List.length_eq_zero_iff.1 h0
    subst h1
    refine St.seq ?_
    refine St.region rfl ?_
    refine Reg.q rfl rfl rfl (q_assign rfl) ?_
    refine Reg.done ?_
    refine St.keep [4, 2, 0] ?_
    show St _ _ _ [(2, _), (4, _), (2, _), (0, _)] _ _ _
    refine St.ret Try.func12 (.tmp rfl .nil) (Sub.rfl' _) ?_
    exact ⟨_, _, _, rfl, Sub.rfl' _, hx, hS⟩
  · skip
    refine St.skip ?_
    refine St.seq ?_
    refine St.region rfl ?_
    refine Reg.x rfl rfl rfl (e_buildSlice0 so_32 zo_31 (fun b5 τ5 hb5 => ?_))
    replace hS : Stars (_ :: _ :: rs) _ := (hS.fresh hb5).empty (m := 1)
    refine Reg.q rfl rfl rfl (q_move rfl) ?_
    refine Reg.x rfl rfl rfl (e_append rfl Try.underlying32 Try.underlying32 sb_31 zo_31 rfl rfl rfl (hS.own 0 rfl) (Rd.up hx (hS.ro 1 rfl)) (.inr rfl) (flat_u32 xs) (by show (0 + xs.length) * 4 ≤ _; omega) (by omega) (fun b7 o7 c7 τ7 hf7 hu7 ho7 => ?_))
    replace hS : Stars (_ :: _ :: rs) _ := (hS.top 0 rfl).ownU hf7 hu7 ho7
    refine Reg.q rfl rfl rfl (q_assign rfl) ?_
    refine Reg.done ?_
    refine St.keep [4, 2, 0] ?_
    show St _ _ _ [(2, _), (4, _), (2, _), (0, _)] _ _ _
    refine St.ret Try.func12 (.tmp rfl .nil) (Sub.rfl' _) ?_
    obtain ⟨ρ2, r1, r2, r3⟩ := hS.ownRo
    exact ⟨ρ2, some ⟨b7, o7, none⟩, c7, by simp [one], r1, by simpa using r2, r3⟩

theorem ixf_m (σ : Heap) (p : Option Addr) (n c : Nat) (xs : List Msg) (hx : Rd σ 6 p n (xs.flatMap Msg.cells)) (hb : n < 4611686018427387904) (g : FuncId) (us cs : Array Value) (pr : Msg → Bool) (hg : callable Try.prog g = true) (hf : ∀ x ∈ xs, Does Try.prog g (us ++ #[x.v] ++ cs) σ (fun v τ => v = .bool (pr x) ∧ σ = τ)) : Does Try.prog 53 #[.slice p n c, .func (.func g) us cs] σ (fun v τ => ∃ d : Int, v = .int .i64 d ∧ decide (0 ≤ d) = xs.any pr ∧ σ = τ) := by
  refine Does.enter (n := 19) (l := [(0, _), (1, _)]) Try.func53 rfl rfl (by simp) rfl ?_
  have hn := Rd.len Msg.cells_len (by decide) hx
  subst hn
  refine St.seq ?_
  refine St.region rfl ?_
  refine Reg.q rfl rfl rfl (q_assign rfl) ?_
  refine Reg.done ?_
  refine St.keep [0, 1, 4] ?_
  show St _ _ _ [(4, _), (0, _), (1, _)] _ _ _
  refine St.seq ?_
  refine St.seq ?_
  refine St.region rfl ?_
  refine Reg.q rfl rfl rfl (q_move rfl) ?_
  refine Reg.q rfl rfl rfl (q_lenS rfl se_60 rfl) ?_
  refine Reg.q rfl rfl rfl (q_move rfl) ?_
  refine Reg.done ?_
  refine St.keep [4, 0, 1, 7, 8] ?_
  show St _ _ _ [(8, _), (7, _), (4, _), (0, _), (1, _)] _ _ _
  refine St.block ?_
  refine St.loopw (Y := Nat) (fun i => [(8, .int .i64 (i : Nat))]) [7, 4, 0, 1] (fun i τ => τ = σ ∧ i ≤ xs.length ∧ (xs.take i).any pr = false) (fun i => xs.length - i) (0) rfl (⟨rfl, Nat.zero_le _, by simp⟩) ?_
  intro i τ ⟨hτ, hi⟩ back
  subst hτ
  show St _ _ _ [(8, _), (7, _), (4, _), (0, _), (1, _)] _ _ _
  refine St.seq ?_
  refine St.region rfl ?_
  refine Reg.q rfl rfl rfl (q_lt rfl rfl) ?_
  refine Reg.done ?_
  refine St.keep [8, 7, 4, 0, 1, 9] ?_
  show St _ _ _ [(9, _), (8, _), (7, _), (4, _), (0, _), (1, _)] _ _ _
  refine St.seq ?_
  refine St.cond rfl (fun hc0 => ?_) (fun hc0 => ?_)
  · simp at hc0
    obtain ⟨b1, o1, cs1, T1, f1, rfl, hb1, hl1, hr1⟩ := Rd.row Msg.cells_len (by decide) hx (List.getElem?_eq_getElem hc0)
    refine St.skip ?_
    refine St.seq ?_
    refine St.block ?_
    refine St.seq ?_
    refine St.region rfl ?_
    refine Reg.q rfl rfl rfl (q_move rfl) ?_
    refine Reg.q rfl rfl rfl (q_assign rfl) ?_
    refine Reg.done ?_
    refine St.keep [9, 8, 7, 4, 0, 1, 5] ?_
    show St _ _ _ [(5, _), (9, _), (8, _), (7, _), (4, _), (0, _), (1, _)] _ _ _
    refine St.seq ?_
    refine St.region rfl ?_
    refine Reg.q rfl rfl rfl (q_move rfl) ?_
    refine Reg.q rfl rfl rfl (q_move rfl) ?_
    refine Reg.q rfl rfl rfl (q_move rfl) ?_
    refine Reg.q rfl rfl rfl (q_indexAt se_60 rfl rfl rfl (by omega) rfl) ?_
    refine Reg.q rfl rfl rfl (q_loadA ac_34 rfl hb1 hr1) ?_
    refine Reg.x rfl rfl rfl (e_call rfl rfl rfl rfl rfl hg ((hf xs[i] (List.getElem_mem hc0)).mono fun v16 τ16 h16 => ?_))
    obtain ⟨rfl, rfl⟩ := h16
    refine Reg.done ?_
    refine St.keep [5, 9, 8, 7, 4, 0, 1, 16] ?_
    show St _ _ _ [(16, _), (5, _), (9, _), (8, _), (7, _), (4, _), (0, _), (1, _)] _ _ _
    refine St.cond rfl (fun hc1 => ?_) (fun hc1 => ?_)
    · skip
      refine St.seq ?_
      refine St.region rfl ?_
      refine Reg.q rfl rfl rfl (q_move rfl) ?_
      refine Reg.q rfl rfl rfl (q_assign rfl) ?_
      refine Reg.done ?_
      refine St.keep [16, 5, 9, 8, 7, 4, 0, 1] ?_
      show St _ _ _ [(4, _), (16, _), (5, _), (9, _), (8, _), (7, _), (4, _), (0, _), (1, _)] _ _ _
      refine St.ret Try.func53 (.tmp rfl .nil) (Sub.rfl' _) ?_
      exact ⟨_, rfl, by rw [List.any_eq_true.2 ⟨_, List.getElem_mem hc0, hc1⟩]; simp, rfl⟩
    · skip
      refine St.skip ?_
      refine St.inBlock ?_
      refine St.region rfl ?_
      refine Reg.q rfl rfl rfl (q_add rfl rfl (inc64 (by omega))) ?_
      refine Reg.q rfl rfl rfl (q_move rfl) ?_
      refine Reg.done ?_
      refine St.keep [16, 5, 9, 8, 7, 4, 0, 1] ?_
      show St _ _ _ [(8, _), (16, _), (5, _), (9, _), (8, _), (7, _), (4, _), (0, _), (1, _)] _ _ _
      refine St.conv (SubL.list (by rfl)) (Sub.rfl' _) (back (i + 1) _ ?_ ?_)
      · exact ⟨rfl, by omega, by rw [List.take_add_one, List.any_append, hi.2, List.getElem?_eq_getElem hc0]; simp [hc1]⟩
      · omega
  · simp at hc0
    refine St.exit rfl ?_
    refine St.seq ?_
    refine St.region rfl ?_
    refine Reg.q rfl rfl rfl (q_assign rfl) ?_
    refine Reg.done ?_
    refine St.keep [9, 8, 7, 4, 0, 1] ?_
    show St _ _ _ [(4, _), (9, _), (8, _), (7, _), (4, _), (0, _), (1, _)] _ _ _
    refine St.ret Try.func53 (.tmp rfl .nil) (Sub.rfl' _) ?_
    exact ⟨_, rfl, by have h1 := hi.2; rw [List.take_of_length_le (by omega)] at h1; rw [h1]; rfl, rfl⟩

theorem cof_m (σ : Heap) (p : Option Addr) (n c : Nat) (xs : List Msg) (hx : Rd σ 6 p n (xs.flatMap Msg.cells)) (hb : n < 4611686018427387904) (g : FuncId) (us cs : Array Value) (pr : Msg → Bool) (hg : callable Try.prog g = true) (hf : ∀ x ∈ xs, Does Try.prog g (us ++ #[x.v] ++ cs) σ (fun v τ => v = .bool (pr x) ∧ σ = τ)) : Does Try.prog 46 #[.slice p n c, .func (.func g) us cs] σ (fun v τ => v = .bool (xs.any pr) ∧ σ = τ) := by
  refine Does.enter (n := 9) (l := [(0, _), (1, _)]) Try.func46 rfl rfl (by simp) rfl ?_
  refine St.seq ?_
  refine St.region rfl ?_
  refine Reg.q rfl rfl rfl (q_assign rfl) ?_
  refine Reg.done ?_
  refine St.keep [0, 1, 4] ?_
  show St _ _ _ [(4, _), (0, _), (1, _)] _ _ _
  refine St.seq ?_
  refine St.region rfl ?_
  refine Reg.q rfl rfl rfl (q_move rfl) ?_
  refine Reg.q rfl rfl rfl (q_move rfl) ?_
  refine Reg.x rfl rfl rfl (e_callF rfl rfl rfl ca_53 ((ixf_m _ _ _ _ _ hx hb _ _ _ _ hg hf).mono fun v7 τ7 h7 => ?_))
  obtain ⟨d, rfl, hd, rfl⟩ := h7
  refine Reg.q rfl rfl rfl (q_ge rfl rfl) ?_
  refine Reg.q rfl rfl rfl (q_assign rfl) ?_
  refine Reg.done ?_
  refine St.keep [4, 0, 1] ?_
  show St _ _ _ [(4, _), (4, _), (0, _), (1, _)] _ _ _
  refine St.ret Try.func46 (.tmp rfl .nil) (Sub.rfl' _) ?_
  exact ⟨by simp [one, hd], rfl⟩

theorem ixf_g (σ : Heap) (p : Option Addr) (n c : Nat) (xs : List Got) (hx : Rd σ 8 p n (xs.flatMap Got.cells)) (hb : n < 4611686018427387904) (g : FuncId) (us cs : Array Value) (pr : Got → Bool) (hg : callable Try.prog g = true) (hf : ∀ x ∈ xs, Does Try.prog g (us ++ #[x.v] ++ cs) σ (fun v τ => v = .bool (pr x) ∧ σ = τ)) : Does Try.prog 59 #[.slice p n c, .func (.func g) us cs] σ (fun v τ => ∃ d : Int, v = .int .i64 d ∧ decide (0 ≤ d) = xs.any pr ∧ σ = τ) := by
  refine Does.enter (n := 19) (l := [(0, _), (1, _)]) Try.func59 rfl rfl (by simp) rfl ?_
  have hn := Rd.len Got.cells_len (by decide) hx
  subst hn
  refine St.seq ?_
  refine St.region rfl ?_
  refine Reg.q rfl rfl rfl (q_assign rfl) ?_
  refine Reg.done ?_
  refine St.keep [0, 1, 4] ?_
  show St _ _ _ [(4, _), (0, _), (1, _)] _ _ _
  refine St.seq ?_
  refine St.seq ?_
  refine St.region rfl ?_
  refine Reg.q rfl rfl rfl (q_move rfl) ?_
  refine Reg.q rfl rfl rfl (q_lenS rfl se_99 rfl) ?_
  refine Reg.q rfl rfl rfl (q_move rfl) ?_
  refine Reg.done ?_
  refine St.keep [4, 0, 1, 7, 8] ?_
  show St _ _ _ [(8, _), (7, _), (4, _), (0, _), (1, _)] _ _ _
  refine St.block ?_
  refine St.loopw (Y := Nat) (fun i => [(8, .int .i64 (i : Nat))]) [7, 4, 0, 1] (fun i τ => τ = σ ∧ i ≤ xs.length ∧ (xs.take i).any pr = false) (fun i => xs.length - i) (0) rfl (⟨rfl, Nat.zero_le _, by simp⟩) ?_
  intro i τ ⟨hτ, hi⟩ back
  subst hτ
  show St _ _ _ [(8, _), (7, _), (4, _), (0, _), (1, _)] _ _ _
  refine St.seq ?_
  refine St.region rfl ?_
  refine Reg.q rfl rfl rfl (q_lt rfl rfl) ?_
  refine Reg.done ?_
  refine St.keep [8, 7, 4, 0, 1, 9] ?_
  show St _ _ _ [(9, _), (8, _), (7, _), (4, _), (0, _), (1, _)] _ _ _
  refine St.seq ?_
  refine St.cond rfl (fun hc0 => ?_) (fun hc0 => ?_)
  · simp at hc0
    obtain ⟨b1, o1, cs1, T1, f1, rfl, hb1, hl1, hr1⟩ := Rd.row Got.cells_len (by decide) hx (List.getElem?_eq_getElem hc0)
    refine St.skip ?_
    refine St.seq ?_
    refine St.block ?_
    refine St.seq ?_
    refine St.region rfl ?_
    refine Reg.q rfl rfl rfl (q_move rfl) ?_
    refine Reg.q rfl rfl rfl (q_assign rfl) ?_
    refine Reg.done ?_
    refine St.keep [9, 8, 7, 4, 0, 1, 5] ?_
    show St _ _ _ [(5, _), (9, _), (8, _), (7, _), (4, _), (0, _), (1, _)] _ _ _
    refine St.seq ?_
    refine St.region rfl ?_
    refine Reg.q rfl rfl rfl (q_move rfl) ?_
    refine Reg.q rfl rfl rfl (q_move rfl) ?_
    refine Reg.q rfl rfl rfl (q_move rfl) ?_
    refine Reg.q rfl rfl rfl (q_indexAt se_99 rfl rfl rfl (by omega) rfl) ?_
    refine Reg.q rfl rfl rfl (q_loadA ac_103 rfl hb1 hr1) ?_
    refine Reg.x rfl rfl rfl (e_call rfl rfl rfl rfl rfl hg ((hf xs[i] (List.getElem_mem hc0)).mono fun v16 τ16 h16 => ?_))
    obtain ⟨rfl, rfl⟩ := h16
    refine Reg.done ?_
    refine St.keep [5, 9, 8, 7, 4, 0, 1, 16] ?_
    show St _ _ _ [(16, _), (5, _), (9, _), (8, _), (7, _), (4, _), (0, _), (1, _)] _ _ _
    refine St.cond rfl (fun hc1 => ?_) (fun hc1 => ?_)
    · skip
      refine St.seq ?_
      refine St.region rfl ?_
      refine Reg.q rfl rfl rfl (q_move rfl) ?_
      refine Reg.q rfl rfl rfl (q_assign rfl) ?_
      refine Reg.done ?_
      refine St.keep [16, 5, 9, 8, 7, 4, 0, 1] ?_
      show St _ _ _ [(4, _), (16, _), (5, _), (9, _), (8, _), (7, _), (4, _), (0, _), (1, _)] _ _ _
      refine St.ret Try.func59 (.tmp rfl .nil) (Sub.rfl' _) ?_
      exact ⟨_, rfl, by rw [List.any_eq_true.2 ⟨_, List.getElem_mem hc0, hc1⟩]; simp, rfl⟩
    · skip
      refine St.skip ?_
      refine St.inBlock ?_
      refine St.region rfl ?_
      refine Reg.q rfl rfl rfl (q_add rfl rfl (inc64 (by omega))) ?_
      refine Reg.q rfl rfl rfl (q_move rfl) ?_
      refine Reg.done ?_
      refine St.keep [16, 5, 9, 8, 7, 4, 0, 1] ?_
      show St _ _ _ [(8, _), (16, _), (5, _), (9, _), (8, _), (7, _), (4, _), (0, _), (1, _)] _ _ _
      refine St.conv (SubL.list (by rfl)) (Sub.rfl' _) (back (i + 1) _ ?_ ?_)
      · exact ⟨rfl, by omega, by rw [List.take_add_one, List.any_append, hi.2, List.getElem?_eq_getElem hc0]; simp [hc1]⟩
      · omega
  · simp at hc0
    refine St.exit rfl ?_
    refine St.seq ?_
    refine St.region rfl ?_
    refine Reg.q rfl rfl rfl (q_assign rfl) ?_
    refine Reg.done ?_
    refine St.keep [9, 8, 7, 4, 0, 1] ?_
    show St _ _ _ [(4, _), (9, _), (8, _), (7, _), (4, _), (0, _), (1, _)] _ _ _
    refine St.ret Try.func59 (.tmp rfl .nil) (Sub.rfl' _) ?_
    exact ⟨_, rfl, by have h1 := hi.2; rw [List.take_of_length_le (by omega)] at h1; rw [h1]; rfl, rfl⟩

theorem cof_g (σ : Heap) (p : Option Addr) (n c : Nat) (xs : List Got) (hx : Rd σ 8 p n (xs.flatMap Got.cells)) (hb : n < 4611686018427387904) (g : FuncId) (us cs : Array Value) (pr : Got → Bool) (hg : callable Try.prog g = true) (hf : ∀ x ∈ xs, Does Try.prog g (us ++ #[x.v] ++ cs) σ (fun v τ => v = .bool (pr x) ∧ σ = τ)) : Does Try.prog 56 #[.slice p n c, .func (.func g) us cs] σ (fun v τ => v = .bool (xs.any pr) ∧ σ = τ) := by
  refine Does.enter (n := 9) (l := [(0, _), (1, _)]) Try.func56 rfl rfl (by simp) rfl ?_
  refine St.seq ?_
  refine St.region rfl ?_
  refine Reg.q rfl rfl rfl (q_assign rfl) ?_
  refine Reg.done ?_
  refine St.keep [0, 1, 4] ?_
  show St _ _ _ [(4, _), (0, _), (1, _)] _ _ _
  refine St.seq ?_
  refine St.region rfl ?_
  refine Reg.q rfl rfl rfl (q_move rfl) ?_
  refine Reg.q rfl rfl rfl (q_move rfl) ?_
  refine Reg.x rfl rfl rfl (e_callF rfl rfl rfl ca_59 ((ixf_g _ _ _ _ _ hx hb _ _ _ _ hg hf).mono fun v7 τ7 h7 => ?_))
  obtain ⟨d, rfl, hd, rfl⟩ := h7
  refine Reg.q rfl rfl rfl (q_ge rfl rfl) ?_
  refine Reg.q rfl rfl rfl (q_assign rfl) ?_
  refine Reg.done ?_
  refine St.keep [4, 0, 1] ?_
  show St _ _ _ [(4, _), (4, _), (0, _), (1, _)] _ _ _
  refine St.ret Try.func56 (.tmp rfl .nil) (Sub.rfl' _) ?_
  exact ⟨by simp [one, hd], rfl⟩
end Go.Proofs.Ytdgdbnkhmdncdaa
