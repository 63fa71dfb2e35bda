/- Contracts of small functions, walked. -/
import Derived.Test.YtdgdbnkhmdncdaaGwR
import Derived.Test.YtdgdbnkhmdncdaaPure
import Derived.Test.YtdgdbnkhmdncdaaChecked
set_option linter.unusedSectionVars false
set_option linter.unusedSimpArgs false
set_option linter.unusedVariables false
namespace Go.Proofs.Ytdgdbnkhmdncdaa
open Go.Gw Go.Cs
variable [Env]
theorem mixed : Try.prog.follows .mixedOrders = true := by kernel_rfl
namespace FH1
theorem ac_28 : aggCells Try.prog 28 = some none := by kernel_rfl
theorem ac_3 : aggCells Try.prog 3 = some none := by kernel_rfl
theorem ac_84 : aggCells Try.prog 84 = some (some 2) := by kernel_rfl
theorem ca_39 : callable Try.prog 39 = true := by kernel_rfl
theorem ca_40 : callable Try.prog 40 = true := by kernel_rfl
theorem ca_41 : callable Try.prog 41 = true := by kernel_rfl
theorem ca_42 : callable Try.prog 42 = true := by kernel_rfl
theorem ca_43 : callable Try.prog 43 = true := by kernel_rfl
theorem ca_50 : callable Try.prog 50 = true := by kernel_rfl
theorem ca_51 : callable Try.prog 51 = true := by kernel_rfl
theorem fo_30_0 : fieldOff Try.prog 30 0 = some 0 := by kernel_rfl
theorem fo_30_1 : fieldOff Try.prog 30 1 = some 1 := by kernel_rfl
theorem fo_34_0 : fieldOff Try.prog 34 0 = some 0 := by kernel_rfl
theorem fo_34_2 : fieldOff Try.prog 34 2 = some 2 := by kernel_rfl
theorem fo_84_0 : fieldOff Try.prog 84 0 = some 0 := by kernel_rfl
theorem fo_84_1 : fieldOff Try.prog 84 1 = some 1 := by kernel_rfl
theorem pl_84 : places Try.prog 84 = some #[(0, 1), (1, 1)] := by kernel_rfl
theorem se_95 : sliceElem Try.prog 95 = some 1 := by kernel_rfl
theorem so_95 : sliceOf Try.prog 95 = some (3, 1) := by kernel_rfl
theorem sz_84 : szOf Try.prog 84 = some 2 := by kernel_rfl
theorem zo_3 : zeroOf Try.prog 3 = some #[.int .i64 0] := by kernel_rfl
theorem zo_84 : zeroOf Try.prog 84 = some #[.int .u64 0, .int .i64 0] := by kernel_rfl
theorem zr_3_2 : zrow #[.int .i64 0] (2 * 1) = #[.int .i64 0, .int .i64 0] := by kernel_rfl
end FH1
open FH1

theorem nan_u64 (σ : Heap) (a : Int) : Does Try.prog 50 #[.int .u64 a] σ (fun v τ => v = .bool false ∧ σ = τ) := by
  refine Does.enter (n := 6) (l := [(0, _)]) Try.func50 rfl rfl (by simp) rfl ?_
  refine St.seq ?_
  refine St.region rfl ?_
  refine Reg.q rfl rfl rfl (q_assign rfl) ?_
  refine Reg.done ?_
  refine St.keep [0, 2] ?_
  show St _ _ _ [(2, _), (0, _)] _ _ _
  refine St.seq ?_
  refine St.region rfl ?_
  refine Reg.q rfl rfl rfl (q_move rfl) ?_
  refine Reg.q rfl rfl rfl (q_move rfl) ?_
  refine Reg.q rfl rfl rfl (q_ine rfl rfl) ?_
  refine Reg.q rfl rfl rfl (q_assign rfl) ?_
  refine Reg.done ?_
  refine St.keep [2, 0] ?_
  show St _ _ _ [(2, _), (2, _), (0, _)] _ _ _
  refine St.ret Try.func50 (.tmp rfl .nil) (Sub.rfl' _) ?_
  exact ⟨by simp [one], rfl⟩

theorem nan_i64 (σ : Heap) (a : Int) : Does Try.prog 51 #[.int .i64 a] σ (fun v τ => v = .bool false ∧ σ = τ) := by
  refine Does.enter (n := 6) (l := [(0, _)]) Try.func51 rfl rfl (by simp) rfl ?_
  refine St.seq ?_
  refine St.region rfl ?_
  refine Reg.q rfl rfl rfl (q_assign rfl) ?_
  refine Reg.done ?_
  refine St.keep [0, 2] ?_
  show St _ _ _ [(2, _), (0, _)] _ _ _
  refine St.seq ?_
  refine St.region rfl ?_
  refine Reg.q rfl rfl rfl (q_move rfl) ?_
  refine Reg.q rfl rfl rfl (q_move rfl) ?_
  refine Reg.q rfl rfl rfl (q_ine rfl rfl) ?_
  refine Reg.q rfl rfl rfl (q_assign rfl) ?_
  refine Reg.done ?_
  refine St.keep [2, 0] ?_
  show St _ _ _ [(2, _), (2, _), (0, _)] _ _ _
  refine St.ret Try.func51 (.tmp rfl .nil) (Sub.rfl' _) ?_
  exact ⟨by simp [one], rfl⟩

theorem cmp_u64 (σ : Heap) (a b : Int) : Does Try.prog 41 #[.int .u64 a, .int .u64 b] σ (fun v τ => v = .int .i64 (cmpI a b) ∧ σ = τ) := by
  refine Does.enter (n := 20) (l := [(0, _), (1, _)]) Try.func41 rfl rfl (by simp) rfl ?_
  refine St.seq ?_
  refine St.region rfl ?_
  refine Reg.q rfl rfl rfl (q_assign rfl) ?_
  refine Reg.done ?_
  refine St.keep [0, 1, 4] ?_
  show St _ _ _ [(4, _), (0, _), (1, _)] _ _ _
  refine St.seq ?_
  refine St.region rfl ?_
  refine Reg.q rfl rfl rfl (q_move rfl) ?_
  refine Reg.x rfl rfl rfl (e_callF rfl rfl rfl ca_50 ((nan_u64 _ _).mono fun v8 τ8 h8 => ?_))
  obtain ⟨rfl, rfl⟩ := h8
  refine Reg.q rfl rfl rfl (q_assign rfl) ?_
  refine Reg.done ?_
  refine St.keep [4, 0, 1, 5] ?_
  show St _ _ _ [(5, _), (4, _), (0, _), (1, _)] _ _ _
  refine St.seq ?_
  refine St.region rfl ?_
  refine Reg.q rfl rfl rfl (q_move rfl) ?_
  refine Reg.x rfl rfl rfl (e_callF rfl rfl rfl ca_50 ((nan_u64 _ _).mono fun v10 τ10 h10 => ?_))
  obtain ⟨rfl, rfl⟩ := h10
  refine Reg.q rfl rfl rfl (q_assign rfl) ?_
  refine Reg.done ?_
  refine St.keep [5, 4, 0, 1, 6] ?_
  show St _ _ _ [(6, _), (5, _), (4, _), (0, _), (1, _)] _ _ _
  refine St.seq ?_
  refine St.seq ?_
  refine St.region rfl ?_
  refine Reg.q rfl rfl rfl (q_move rfl) ?_
  refine Reg.done ?_
  refine St.keep [6, 5, 4, 0, 1, 11] ?_
  show St _ _ _ [(11, _), (6, _), (5, _), (4, _), (0, _), (1, _)] _ _ _
  refine St.condF rfl ?_
  refine St.skip ?_
  refine St.seq ?_
  refine St.seq ?_
  refine St.region rfl ?_
  refine Reg.q rfl rfl rfl (q_move rfl) ?_
  refine Reg.done ?_
  refine St.keep [11, 6, 5, 4, 0, 1, 13] ?_
  show St _ _ _ [(13, _), (11, _), (6, _), (5, _), (4, _), (0, _), (1, _)] _ _ _
  refine St.condF rfl ?_
  refine St.skip ?_
  refine St.seq ?_
  refine St.seq ?_
  refine St.region rfl ?_
  refine Reg.q rfl rfl rfl (q_move rfl) ?_
  refine Reg.q rfl rfl rfl (q_move rfl) ?_
  refine Reg.q rfl rfl rfl (q_lt rfl rfl) ?_
  refine Reg.done ?_
  refine St.keep [13, 11, 6, 5, 4, 0, 1, 16] ?_
  show St _ _ _ [(16, _), (13, _), (11, _), (6, _), (5, _), (4, _), (0, _), (1, _)] _ _ _
  refine St.cond rfl (fun hc3 => ?_) (fun hc3 => ?_)
  · skip
    refine St.seq ?_
    refine St.region rfl ?_
    refine Reg.q rfl rfl rfl (q_assign rfl) ?_
    refine Reg.done ?_
    refine St.keep [16, 13, 11, 6, 5, 4, 0, 1] ?_
    show St _ _ _ [(4, _), (16, _), (13, _), (11, _), (6, _), (5, _), (4, _), (0, _), (1, _)] _ _ _
    refine St.ret Try.func41 (.tmp rfl .nil) (Sub.rfl' _) ?_
    exact ⟨by simp at hc3; simp [one, cmpI, hc3], rfl⟩
  · skip
    refine St.skip ?_
    refine St.seq ?_
    refine St.seq ?_
    refine St.region rfl ?_
    refine Reg.q rfl rfl rfl (q_move rfl) ?_
    refine Reg.q rfl rfl rfl (q_move rfl) ?_
    refine Reg.q rfl rfl rfl (q_gt rfl rfl) ?_
    refine Reg.done ?_
    refine St.keep [16, 13, 11, 6, 5, 4, 0, 1, 19] ?_
    show St _ _ _ [(19, _), (16, _), (13, _), (11, _), (6, _), (5, _), (4, _), (0, _), (1, _)] _ _ _
    refine St.cond rfl (fun hc4 => ?_) (fun hc4 => ?_)
    · skip
      refine St.seq ?_
      refine St.region rfl ?_
      refine Reg.q rfl rfl rfl (q_assign rfl) ?_
      refine Reg.done ?_
      refine St.keep [19, 16, 13, 11, 6, 5, 4, 0, 1] ?_
      show St _ _ _ [(4, _), (19, _), (16, _), (13, _), (11, _), (6, _), (5, _), (4, _), (0, _), (1, _)] _ _ _
      refine St.ret Try.func41 (.tmp rfl .nil) (Sub.rfl' _) ?_
      exact ⟨by simp at hc3 hc4; simp [one, cmpI, hc4, Int.not_lt.2 hc3], rfl⟩
    · skip
      refine St.skip ?_
      refine St.seq ?_
      refine St.region rfl ?_
      refine Reg.q rfl rfl rfl (q_assign rfl) ?_
      refine Reg.done ?_
      refine St.keep [19, 16, 13, 11, 6, 5, 4, 0, 1] ?_
      show St _ _ _ [(4, _), (19, _), (16, _), (13, _), (11, _), (6, _), (5, _), (4, _), (0, _), (1, _)] _ _ _
      refine St.ret Try.func41 (.tmp rfl .nil) (Sub.rfl' _) ?_
      exact ⟨by simp at hc3 hc4; simp [one, cmpI, Int.not_lt.2 hc3, Int.not_lt.2 hc4], rfl⟩

theorem cmp_i64 (σ : Heap) (a b : Int) : Does Try.prog 42 #[.int .i64 a, .int .i64 b] σ (fun v τ => v = .int .i64 (cmpI a b) ∧ σ = τ) := by
  refine Does.enter (n := 20) (l := [(0, _), (1, _)]) Try.func42 rfl rfl (by simp) rfl ?_
  refine St.seq ?_
  refine St.region rfl ?_
  refine Reg.q rfl rfl rfl (q_assign rfl) ?_
  refine Reg.done ?_
  refine St.keep [0, 1, 4] ?_
  show St _ _ _ [(4, _), (0, _), (1, _)] _ _ _
  refine St.seq ?_
  refine St.region rfl ?_
  refine Reg.q rfl rfl rfl (q_move rfl) ?_
  refine Reg.x rfl rfl rfl (e_callF rfl rfl rfl ca_51 ((nan_i64 _ _).mono fun v8 τ8 h8 => ?_))
  obtain ⟨rfl, rfl⟩ := h8
  refine Reg.q rfl rfl rfl (q_assign rfl) ?_
  refine Reg.done ?_
  refine St.keep [4, 0, 1, 5] ?_
  show St _ _ _ [(5, _), (4, _), (0, _), (1, _)] _ _ _
  refine St.seq ?_
  refine St.region rfl ?_
  refine Reg.q rfl rfl rfl (q_move rfl) ?_
  refine Reg.x rfl rfl rfl (e_callF rfl rfl rfl ca_51 ((nan_i64 _ _).mono fun v10 τ10 h10 => ?_))
  obtain ⟨rfl, rfl⟩ := h10
  refine Reg.q rfl rfl rfl (q_assign rfl) ?_
  refine Reg.done ?_
  refine St.keep [5, 4, 0, 1, 6] ?_
  show St _ _ _ [(6, _), (5, _), (4, _), (0, _), (1, _)] _ _ _
  refine St.seq ?_
  refine St.seq ?_
  refine St.region rfl ?_
  refine Reg.q rfl rfl rfl (q_move rfl) ?_
  refine Reg.done ?_
  refine St.keep [6, 5, 4, 0, 1, 11] ?_
  show St _ _ _ [(11, _), (6, _), (5, _), (4, _), (0, _), (1, _)] _ _ _
  refine St.condF rfl ?_
  refine St.skip ?_
  refine St.seq ?_
  refine St.seq ?_
  refine St.region rfl ?_
  refine Reg.q rfl rfl rfl (q_move rfl) ?_
  refine Reg.done ?_
  refine St.keep [11, 6, 5, 4, 0, 1, 13] ?_
  show St _ _ _ [(13, _), (11, _), (6, _), (5, _), (4, _), (0, _), (1, _)] _ _ _
  refine St.condF rfl ?_
  refine St.skip ?_
  refine St.seq ?_
  refine St.seq ?_
  refine St.region rfl ?_
  refine Reg.q rfl rfl rfl (q_move rfl) ?_
  refine Reg.q rfl rfl rfl (q_move rfl) ?_
  refine Reg.q rfl rfl rfl (q_lt rfl rfl) ?_
  refine Reg.done ?_
  refine St.keep [13, 11, 6, 5, 4, 0, 1, 16] ?_
  show St _ _ _ [(16, _), (13, _), (11, _), (6, _), (5, _), (4, _), (0, _), (1, _)] _ _ _
  refine St.cond rfl (fun hc3 => ?_) (fun hc3 => ?_)
  · skip
    refine St.seq ?_
    refine St.region rfl ?_
    refine Reg.q rfl rfl rfl (q_assign rfl) ?_
    refine Reg.done ?_
    refine St.keep [16, 13, 11, 6, 5, 4, 0, 1] ?_
    show St _ _ _ [(4, _), (16, _), (13, _), (11, _), (6, _), (5, _), (4, _), (0, _), (1, _)] _ _ _
    refine St.ret Try.func42 (.tmp rfl .nil) (Sub.rfl' _) ?_
    exact ⟨by simp at hc3; simp [one, cmpI, hc3], rfl⟩
  · skip
    refine St.skip ?_
    refine St.seq ?_
    refine St.seq ?_
    refine St.region rfl ?_
    refine Reg.q rfl rfl rfl (q_move rfl) ?_
    refine Reg.q rfl rfl rfl (q_move rfl) ?_
    refine Reg.q rfl rfl rfl (q_gt rfl rfl) ?_
    refine Reg.done ?_
    refine St.keep [16, 13, 11, 6, 5, 4, 0, 1, 19] ?_
    show St _ _ _ [(19, _), (16, _), (13, _), (11, _), (6, _), (5, _), (4, _), (0, _), (1, _)] _ _ _
    refine St.cond rfl (fun hc4 => ?_) (fun hc4 => ?_)
    · skip
      refine St.seq ?_
      refine St.region rfl ?_
      refine Reg.q rfl rfl rfl (q_assign rfl) ?_
      refine Reg.done ?_
      refine St.keep [19, 16, 13, 11, 6, 5, 4, 0, 1] ?_
      show St _ _ _ [(4, _), (19, _), (16, _), (13, _), (11, _), (6, _), (5, _), (4, _), (0, _), (1, _)] _ _ _
      refine St.ret Try.func42 (.tmp rfl .nil) (Sub.rfl' _) ?_
      exact ⟨by simp at hc3 hc4; simp [one, cmpI, hc4, Int.not_lt.2 hc3], rfl⟩
    · skip
      refine St.skip ?_
      refine St.seq ?_
      refine St.region rfl ?_
      refine Reg.q rfl rfl rfl (q_assign rfl) ?_
      refine Reg.done ?_
      refine St.keep [19, 16, 13, 11, 6, 5, 4, 0, 1] ?_
      show St _ _ _ [(4, _), (19, _), (16, _), (13, _), (11, _), (6, _), (5, _), (4, _), (0, _), (1, _)] _ _ _
      refine St.ret Try.func42 (.tmp rfl .nil) (Sub.rfl' _) ?_
      exact ⟨by simp at hc3 hc4; simp [one, cmpI, Int.not_lt.2 hc3, Int.not_lt.2 hc4], rfl⟩

theorem bit_spec (σ : Heap) (p : Int) : Does Try.prog 39 #[.int .i64 p] σ (fun v τ => v = .int .u64 (Cs.bit p) ∧ σ = τ) := by
  refine Does.enter (n := 11) (l := [(0, _)]) Try.func39 rfl rfl (by simp) rfl ?_
  refine St.seq ?_
  refine St.region rfl ?_
  refine Reg.q rfl rfl rfl (q_assign rfl) ?_
  refine Reg.done ?_
  refine St.keep [0, 2] ?_
  show St _ _ _ [(2, _), (0, _)] _ _ _
  refine St.seq ?_
  refine St.seq ?_
  refine St.region rfl ?_
  refine Reg.q rfl rfl rfl (q_move rfl) ?_
  refine Reg.q rfl rfl rfl (q_lt rfl rfl) ?_
  refine Reg.q rfl rfl rfl (q_move rfl) ?_
  refine Reg.joinv 8 (.bool (decide (p < 0) || decide (64 ≤ p))) 3 [2, 0, 3, 4] (fun hk1_5 => ?_) ?_
  · skip
    refine Reg.split (d := 5) rfl (fun hg5 => ?_) (fun hg5 => ?_)
    · skip
      refine Reg.skip rfl rfl rfl ?_
      refine Reg.skip rfl rfl rfl ?_
      refine Reg.q rfl rfl rfl (q_pickT rfl rfl) ?_
      exact Reg.meet 4 [2, 0, 3, 4] hk1_5 rfl (by simp only [hg5, Bool.true_or, Bool.false_or, Bool.true_and, Bool.false_and, Bool.not_true, Bool.not_false]) rfl rfl
    · skip
      refine Reg.q rfl rfl rfl (q_move rfl) ?_
      refine Reg.q rfl rfl rfl (q_ge rfl rfl) ?_
      refine Reg.q rfl rfl rfl (q_pickF rfl rfl) ?_
      exact Reg.meet 4 [2, 0, 3, 4] hk1_5 rfl (by simp only [hg5, Bool.true_or, Bool.false_or, Bool.true_and, Bool.false_and, Bool.not_true, Bool.not_false]) rfl rfl
  · skip
    refine Reg.done ?_
    refine St.keep [2, 0, 8] ?_
    show St _ _ _ [(8, _), (2, _), (0, _)] _ _ _
    refine St.cond rfl (fun hc0 => ?_) (fun hc0 => ?_)
    · skip
      refine St.seq ?_
      refine St.region rfl ?_
      refine Reg.q rfl rfl rfl (q_assign rfl) ?_
      refine Reg.done ?_
      refine St.keep [8, 2, 0] ?_
      show St _ _ _ [(2, _), (8, _), (2, _), (0, _)] _ _ _
      refine St.ret Try.func39 (.tmp rfl .nil) (Sub.rfl' _) ?_
      exact ⟨by simp only [one, Cs.bit]; rw [if_pos hc0], rfl⟩
    · skip
      refine St.skip ?_
      refine St.seq ?_
      refine St.region rfl ?_
      refine Reg.q rfl rfl rfl (q_move rfl) ?_
      refine Reg.q rfl rfl rfl (q_shl rfl rfl (by simp at hc0; omega) rfl) ?_
      refine Reg.q rfl rfl rfl (q_assign rfl) ?_
      refine Reg.done ?_
      refine St.keep [8, 2, 0] ?_
      show St _ _ _ [(2, _), (8, _), (2, _), (0, _)] _ _ _
      refine St.ret Try.func39 (.tmp rfl .nil) (Sub.rfl' _) ?_
      exact ⟨by simp only [one, Cs.bit]; rw [if_neg (by rw [hc0]; decide)]; rfl, rfl⟩

theorem has_spec (σ : Heap) (s p : Int) : Does Try.prog 22 #[.int .u64 s, .int .i64 p] σ (fun v τ => v = .bool (Cs.has s p) ∧ σ = τ) := by
  refine Does.enter (n := 10) (l := [(0, _), (1, _)]) Try.func22 rfl rfl (by simp) rfl ?_
  refine St.seq ?_
  refine St.region rfl ?_
  refine Reg.q rfl rfl rfl (q_assign rfl) ?_
  refine Reg.done ?_
  refine St.keep [0, 1, 4] ?_
  show St _ _ _ [(4, _), (0, _), (1, _)] _ _ _
  refine St.seq ?_
  refine St.region rfl ?_
  refine Reg.q rfl rfl rfl (q_move rfl) ?_
  refine Reg.q rfl rfl rfl (q_move rfl) ?_
  refine Reg.x rfl rfl rfl (e_callF rfl rfl rfl ca_39 ((bit_spec _ _).mono fun v7 τ7 h7 => ?_))
  obtain ⟨rfl, rfl⟩ := h7
  refine Reg.q rfl rfl rfl (q_and rfl rfl rfl) ?_
  refine Reg.q rfl rfl rfl (q_ine rfl rfl) ?_
  refine Reg.q rfl rfl rfl (q_assign rfl) ?_
  refine Reg.done ?_
  refine St.keep [4, 0, 1] ?_
  show St _ _ _ [(4, _), (4, _), (0, _), (1, _)] _ _ _
  refine St.ret Try.func22 (.tmp rfl .nil) (Sub.rfl' _) ?_
  exact ⟨rfl, rfl⟩

theorem but_spec (σ : Heap) (s t : Int) : Does Try.prog 43 #[.int .u64 s, .int .u64 t] σ (fun v τ => v = .int .u64 (Cs.but s t) ∧ σ = τ) := by
  refine Does.enter (n := 8) (l := [(0, _), (1, _)]) Try.func43 rfl rfl (by simp) rfl ?_
  refine St.seq ?_
  refine St.region rfl ?_
  refine Reg.q rfl rfl rfl (q_assign rfl) ?_
  refine Reg.done ?_
  refine St.keep [0, 1, 4] ?_
  show St _ _ _ [(4, _), (0, _), (1, _)] _ _ _
  refine St.seq ?_
  refine St.region rfl ?_
  refine Reg.q rfl rfl rfl (q_move rfl) ?_
  refine Reg.q rfl rfl rfl (q_move rfl) ?_
  refine Reg.q rfl rfl rfl (q_andNot rfl rfl rfl) ?_
  refine Reg.q rfl rfl rfl (q_assign rfl) ?_
  refine Reg.done ?_
  refine St.keep [4, 0, 1] ?_
  show St _ _ _ [(4, _), (4, _), (0, _), (1, _)] _ _ _
  refine St.ret Try.func43 (.tmp rfl .nil) (Sub.rfl' _) ?_
  exact ⟨rfl, rfl⟩

theorem in_spec (σ : Heap) (s t : Int) : Does Try.prog 24 #[.int .u64 s, .int .u64 t] σ (fun v τ => v = .bool (Cs.isIn s t) ∧ σ = τ) := by
  refine Does.enter (n := 9) (l := [(0, _), (1, _)]) Try.func24 rfl rfl (by simp) rfl ?_
  refine St.seq ?_
  refine St.region rfl ?_
  refine Reg.q rfl rfl rfl (q_assign rfl) ?_
  refine Reg.done ?_
  refine St.keep [0, 1, 4] ?_
  show St _ _ _ [(4, _), (0, _), (1, _)] _ _ _
  refine St.seq ?_
  refine St.region rfl ?_
  refine Reg.q rfl rfl rfl (q_move rfl) ?_
  refine Reg.q rfl rfl rfl (q_move rfl) ?_
  refine Reg.x rfl rfl rfl (e_callF rfl rfl rfl ca_43 ((but_spec _ _ _).mono fun v7 τ7 h7 => ?_))
  obtain ⟨rfl, rfl⟩ := h7
  refine Reg.q rfl rfl rfl (q_ieq rfl rfl) ?_
  refine Reg.q rfl rfl rfl (q_assign rfl) ?_
  refine Reg.done ?_
  refine St.keep [4, 0, 1] ?_
  show St _ _ _ [(4, _), (4, _), (0, _), (1, _)] _ _ _
  refine St.ret Try.func24 (.tmp rfl .nil) (Sub.rfl' _) ?_
  exact ⟨rfl, rfl⟩

theorem or_spec (σ : Heap) (b : Nat) (x y : Int) (T : Nat) (hb : σ b = some (.cells #[.int .i64 x, .int .i64 y] T (0, 0))) : Does Try.prog 40 #[.slice (some ⟨b, 0, none⟩) 2 2] σ (fun v τ => v = .int .i64 (orI x y) ∧ σ = τ) := by
  refine Does.enter (n := 18) (l := [(0, _)]) Try.func40 rfl rfl (by simp) rfl ?_
  refine St.seq ?_
  refine St.region rfl ?_
  refine Reg.q rfl rfl rfl (q_assign rfl) ?_
  refine Reg.done ?_
  refine St.keep [0, 2] ?_
  show St _ _ _ [(2, _), (0, _)] _ _ _
  refine St.seq ?_
  refine St.region rfl ?_
  refine Reg.q rfl rfl rfl (q_assign rfl) ?_
  refine Reg.done ?_
  refine St.keep [2, 0, 3] ?_
  show St _ _ _ [(3, _), (2, _), (0, _)] _ _ _
  refine St.seq ?_
  refine St.seq ?_
  refine St.region rfl ?_
  refine Reg.q rfl rfl rfl (q_move rfl) ?_
  refine Reg.q rfl rfl rfl (q_lenS rfl se_95 rfl) ?_
  refine Reg.q rfl rfl rfl (q_move rfl) ?_
  refine Reg.done ?_
  refine St.keep [3, 2, 0, 6, 7, 8] ?_
  show St _ _ _ [(8, _), (7, _), (6, _), (3, _), (2, _), (0, _)] _ _ _
  refine St.block ?_
  refine St.enterLoop ?_
  refine St.seq ?_
  refine St.region rfl ?_
  refine Reg.q rfl rfl rfl (q_lt rfl rfl) ?_
  refine Reg.done ?_
  refine St.keep [8, 7, 6, 3, 2, 0, 9] ?_
  show St _ _ _ [(9, _), (8, _), (7, _), (6, _), (3, _), (2, _), (0, _)] _ _ _
  refine St.seq ?_
  refine St.condT rfl ?_
  refine St.skip ?_
  refine St.seq ?_
  refine St.block ?_
  refine St.seq ?_
  refine St.region rfl ?_
  refine Reg.q rfl rfl rfl (q_indexAt se_95 rfl rfl (show _ = some (Value.int .i64 ((0 : Nat) : Int)) from rfl) (by decide) rfl) ?_
  refine Reg.q rfl rfl rfl (q_load1 ac_3 rfl (by assumption) rfl) ?_
  refine Reg.q rfl rfl rfl (q_assign rfl) ?_
  refine Reg.done ?_
  refine St.keep [9, 8, 7, 6, 3, 2, 0, 5] ?_
  show St _ _ _ [(5, _), (9, _), (8, _), (7, _), (6, _), (3, _), (2, _), (0, _)] _ _ _
  refine St.seq ?_
  refine St.region rfl ?_
  refine Reg.q rfl rfl rfl (q_move rfl) ?_
  refine Reg.q rfl rfl rfl (q_move rfl) ?_
  refine Reg.q rfl rfl rfl (q_ine rfl rfl) ?_
  refine Reg.done ?_
  refine St.keep [5, 9, 8, 7, 6, 3, 2, 0, 14] ?_
  show St _ _ _ [(14, _), (5, _), (9, _), (8, _), (7, _), (6, _), (3, _), (2, _), (0, _)] _ _ _
  refine St.cond rfl (fun hc1 => ?_) (fun hc1 => ?_)
  · skip
    refine St.seq ?_
    refine St.region rfl ?_
    refine Reg.q rfl rfl rfl (q_move rfl) ?_
    refine Reg.q rfl rfl rfl (q_assign rfl) ?_
    refine Reg.done ?_
    refine St.keep [14, 5, 9, 8, 7, 6, 3, 2, 0] ?_
    show St _ _ _ [(2, _), (14, _), (5, _), (9, _), (8, _), (7, _), (6, _), (3, _), (2, _), (0, _)] _ _ _
    refine St.ret Try.func40 (.tmp rfl .nil) (Sub.rfl' _) ?_
    exact ⟨by simp at hc1; simp [one, orI, hc1], rfl⟩
  · skip
    refine St.skip ?_
    refine St.inBlock ?_
    refine St.region rfl ?_
    refine Reg.q rfl rfl rfl (q_add rfl rfl (wrap64 (by decide))) ?_
    refine Reg.q rfl rfl rfl (q_move rfl) ?_
    refine Reg.done ?_
    refine St.keep [14, 5, 9, 8, 7, 6, 3, 2, 0] ?_
    show St _ _ _ [(8, _), (14, _), (5, _), (9, _), (8, _), (7, _), (6, _), (3, _), (2, _), (0, _)] _ _ _
    refine St.again ?_
    refine St.seq ?_
    refine St.region rfl ?_
    refine Reg.q rfl rfl rfl (q_lt rfl rfl) ?_
    refine Reg.done ?_
    refine St.keep [8, 14, 5, 9, 8, 7, 6, 3, 2, 0] ?_
    show St _ _ _ [(9, _), (8, _), (14, _), (5, _), (9, _), (8, _), (7, _), (6, _), (3, _), (2, _), (0, _)] _ _ _
    refine St.seq ?_
    refine St.condT rfl ?_
    refine St.skip ?_
    refine St.seq ?_
    refine St.block ?_
    refine St.seq ?_
    refine St.region rfl ?_
    refine Reg.q rfl rfl rfl (q_indexAt se_95 rfl rfl (show _ = some (Value.int .i64 ((1 : Nat) : Int)) from rfl) (by decide) rfl) ?_
    refine Reg.q rfl rfl rfl (q_load1 ac_3 rfl (by assumption) rfl) ?_
    refine Reg.q rfl rfl rfl (q_assign rfl) ?_
    refine Reg.done ?_
    refine St.keep [9, 8, 14, 5, 9, 8, 7, 6, 3, 2, 0] ?_
    show St _ _ _ [(5, _), (9, _), (8, _), (14, _), (5, _), (9, _), (8, _), (7, _), (6, _), (3, _), (2, _), (0, _)] _ _ _
    refine St.seq ?_
    refine St.region rfl ?_
    refine Reg.q rfl rfl rfl (q_move rfl) ?_
    refine Reg.q rfl rfl rfl (q_move rfl) ?_
    refine Reg.q rfl rfl rfl (q_ine rfl rfl) ?_
    refine Reg.done ?_
    refine St.keep [5, 9, 8, 14, 5, 9, 8, 7, 6, 3, 2, 0] ?_
    show St _ _ _ [(14, _), (5, _), (9, _), (8, _), (14, _), (5, _), (9, _), (8, _), (7, _), (6, _), (3, _), (2, _), (0, _)] _ _ _
    refine St.cond rfl (fun hc1 => ?_) (fun hc1 => ?_)
    · skip
      refine St.seq ?_
      refine St.region rfl ?_
      refine Reg.q rfl rfl rfl (q_move rfl) ?_
      refine Reg.q rfl rfl rfl (q_assign rfl) ?_
      refine Reg.done ?_
      refine St.keep [14, 5, 9, 8, 14, 5, 9, 8, 7, 6, 3, 2, 0] ?_
      show St _ _ _ [(2, _), (14, _), (5, _), (9, _), (8, _), (14, _), (5, _), (9, _), (8, _), (7, _), (6, _), (3, _), (2, _), (0, _)] _ _ _
      refine St.ret Try.func40 (.tmp rfl .nil) (Sub.rfl' _) ?_
      exact ⟨by rename_i h0; simp at h0 hc1; simp [one, orI, h0], rfl⟩
    · skip
      refine St.skip ?_
      refine St.inBlock ?_
      refine St.region rfl ?_
      refine Reg.q rfl rfl rfl (q_add rfl rfl (wrap64 (by decide))) ?_
      refine Reg.q rfl rfl rfl (q_move rfl) ?_
      refine Reg.done ?_
      refine St.keep [14, 5, 9, 8, 14, 5, 9, 8, 7, 6, 3, 2, 0] ?_
      show St _ _ _ [(8, _), (14, _), (5, _), (9, _), (8, _), (14, _), (5, _), (9, _), (8, _), (7, _), (6, _), (3, _), (2, _), (0, _)] _ _ _
      refine St.again ?_
      refine St.seq ?_
      refine St.region rfl ?_
      refine Reg.q rfl rfl rfl (q_lt rfl rfl) ?_
      refine Reg.done ?_
      refine St.keep [8, 14, 5, 9, 8, 14, 5, 9, 8, 7, 6, 3, 2, 0] ?_
      show St _ _ _ [(9, _), (8, _), (14, _), (5, _), (9, _), (8, _), (14, _), (5, _), (9, _), (8, _), (7, _), (6, _), (3, _), (2, _), (0, _)] _ _ _
      refine St.seq ?_
      refine St.condF rfl ?_
      refine St.exit rfl ?_
      refine St.seq ?_
      refine St.region rfl ?_
      refine Reg.q rfl rfl rfl (q_move rfl) ?_
      refine Reg.q rfl rfl rfl (q_assign rfl) ?_
      refine Reg.done ?_
      refine St.keep [9, 8, 14, 5, 9, 8, 14, 5, 9, 8, 7, 6, 3, 2, 0] ?_
      show St _ _ _ [(2, _), (9, _), (8, _), (14, _), (5, _), (9, _), (8, _), (14, _), (5, _), (9, _), (8, _), (7, _), (6, _), (3, _), (2, _), (0, _)] _ _ _
      refine St.ret Try.func40 (.tmp rfl .nil) (Sub.rfl' _) ?_
      exact ⟨by rename_i h0; simp at h0 hc1; simp [one, orI, h0, hc1], rfl⟩

theorem confs_spec (σ : Heap) (a b c d : Int) : Does Try.prog 23 #[.agg #[.int .u64 a, .int .i64 b], .agg #[.int .u64 c, .int .i64 d]] σ (fun v τ => v = .int .i64 (orI (cmpI a c) (cmpI b d)) ∧ σ = τ) := by
  refine Does.enter (n := 17) (l := [(0, _), (1, _)]) Try.func23 rfl rfl (by simp) rfl ?_
  have hsub : Sub σ σ := Sub.rfl' σ
  refine St.seq ?_
  refine St.region rfl ?_
  refine Reg.x rfl rfl rfl (e_box rfl (cellsN_eq rfl) (fun b2 τ2 hb2 => ?_))
  have h2 := hb2.at_
  replace hsub := hsub.trans hb2.sub
  refine Reg.x rfl rfl rfl (e_box rfl (cellsN_eq rfl) (fun b3 τ3 hb3 => ?_))
  replace h2 := hb3.sub _ _ h2
  have h3 := hb3.at_
  replace hsub := hsub.trans hb3.sub
  refine Reg.q rfl rfl rfl (q_assign rfl) ?_
  refine Reg.done ?_
  refine St.keep [0, 1, 2, 3, 4] ?_
  show St _ _ _ [(4, _), (3, _), (2, _), (0, _), (1, _)] _ _ _
  refine St.seq ?_
  refine St.draw0 [9, 10, 11] [(0, .w), (1, .r), (2, .w), (3, .r), (5, .w), (6, .r), (7, .w), (8, .r), (4, .x), (9, .x), (10, .x), (11, .x), (12, .w)] mixed (by kernel_rfl) rfl ?_
  refine Dr.w rfl rfl rfl rfl (q_fieldAddr fo_30_0 rfl rfl) ?_
  refine Dr.r rfl rfl rfl rfl (Sub.rfl' _) (q_load1 ac_28 rfl (by assumption) rfl) ?_
  refine Dr.w rfl rfl rfl rfl (q_fieldAddr fo_30_0 rfl rfl) ?_
  refine Dr.r rfl rfl rfl rfl (Sub.rfl' _) (q_load1 ac_28 rfl (by assumption) rfl) ?_
  refine Dr.w rfl rfl rfl rfl (q_fieldAddr fo_30_1 rfl rfl) ?_
  refine Dr.r rfl rfl rfl rfl (Sub.rfl' _) (q_load1 ac_3 rfl (by assumption) rfl) ?_
  refine Dr.w rfl rfl rfl rfl (q_fieldAddr fo_30_1 rfl rfl) ?_
  refine Dr.r rfl rfl rfl rfl (Sub.rfl' _) (q_load1 ac_3 rfl (by assumption) rfl) ?_
  refine Dr.x rfl rfl rfl rfl (e_callF rfl rfl rfl ca_41 ((cmp_u64 _ _ _).mono fun v9 τ9 h9 => ?_))
  obtain ⟨rfl, rfl⟩ := h9
  refine ⟨.inr (Sub.rfl' _), ?_⟩
  refine Dr.x rfl rfl rfl rfl (e_callF rfl rfl rfl ca_42 ((cmp_i64 _ _ _).mono fun v14 τ14 h14 => ?_))
  obtain ⟨rfl, rfl⟩ := h14
  refine ⟨.inl rfl, ?_⟩
  refine Dr.x rfl rfl rfl rfl (e_buildSlice so_95 zo_3 zr_3_2 rfl rfl rfl (fillN_fill rfl) (fun b15 τ15 hb15 => ⟨.inl rfl, ?_⟩))
  replace h2 := hb15.sub _ _ h2
  replace h3 := hb15.sub _ _ h3
  have h15 := hb15.at_
  replace hsub := hsub.trans hb15.sub
  refine Dr.x rfl rfl rfl rfl (e_callF rfl rfl rfl ca_40 ((or_spec _ _ _ _ _ h15).mono fun v16 τ16 h16 => ?_))
  obtain ⟨rfl, rfl⟩ := h16
  refine ⟨.inl rfl, ?_⟩
  refine Dr.w rfl rfl rfl rfl (q_assign rfl) ?_
  refine Dr.done ?_
  refine St.keep [4, 3, 2, 0, 1] ?_
  show St _ _ _ [(4, _), (4, _), (3, _), (2, _), (0, _), (1, _)] _ _ _
  refine St.ret Try.func23 (.tmp rfl .nil) hsub ?_
  exact ⟨rfl, rfl⟩

theorem kcmp_spec (σ : Heap) (a b c d : Int) : Does Try.prog 28 #[.agg #[.int .u64 a, .int .i64 b], .agg #[.int .u64 c, .int .i64 d]] σ (fun v τ => v = .int .i64 (orI (cmpI a c) (cmpI b d)) ∧ σ = τ) := by
  refine Does.enter (n := 17) (l := [(0, _), (1, _)]) Try.func28 rfl rfl (by simp) rfl ?_
  have hsub : Sub σ σ := Sub.rfl' σ
  refine St.seq ?_
  refine St.region rfl ?_
  refine Reg.x rfl rfl rfl (e_box rfl (cellsN_eq rfl) (fun b2 τ2 hb2 => ?_))
  have h2 := hb2.at_
  replace hsub := hsub.trans hb2.sub
  refine Reg.x rfl rfl rfl (e_box rfl (cellsN_eq rfl) (fun b3 τ3 hb3 => ?_))
  replace h2 := hb3.sub _ _ h2
  have h3 := hb3.at_
  replace hsub := hsub.trans hb3.sub
  refine Reg.q rfl rfl rfl (q_assign rfl) ?_
  refine Reg.done ?_
  refine St.keep [0, 1, 2, 3, 4] ?_
  show St _ _ _ [(4, _), (3, _), (2, _), (0, _), (1, _)] _ _ _
  refine St.seq ?_
  refine St.draw0 [9, 10, 11] [(0, .w), (1, .r), (2, .w), (3, .r), (5, .w), (6, .r), (7, .w), (8, .r), (4, .x), (9, .x), (10, .x), (11, .x), (12, .w)] mixed (by kernel_rfl) rfl ?_
  refine Dr.w rfl rfl rfl rfl (q_fieldAddr fo_84_0 rfl rfl) ?_
  refine Dr.r rfl rfl rfl rfl (Sub.rfl' _) (q_load1 ac_28 rfl (by assumption) rfl) ?_
  refine Dr.w rfl rfl rfl rfl (q_fieldAddr fo_84_0 rfl rfl) ?_
  refine Dr.r rfl rfl rfl rfl (Sub.rfl' _) (q_load1 ac_28 rfl (by assumption) rfl) ?_
  refine Dr.w rfl rfl rfl rfl (q_fieldAddr fo_84_1 rfl rfl) ?_
  refine Dr.r rfl rfl rfl rfl (Sub.rfl' _) (q_load1 ac_3 rfl (by assumption) rfl) ?_
  refine Dr.w rfl rfl rfl rfl (q_fieldAddr fo_84_1 rfl rfl) ?_
  refine Dr.r rfl rfl rfl rfl (Sub.rfl' _) (q_load1 ac_3 rfl (by assumption) rfl) ?_
  refine Dr.x rfl rfl rfl rfl (e_callF rfl rfl rfl ca_41 ((cmp_u64 _ _ _).mono fun v9 τ9 h9 => ?_))
  obtain ⟨rfl, rfl⟩ := h9
  refine ⟨.inr (Sub.rfl' _), ?_⟩
  refine Dr.x rfl rfl rfl rfl (e_callF rfl rfl rfl ca_42 ((cmp_i64 _ _ _).mono fun v14 τ14 h14 => ?_))
  obtain ⟨rfl, rfl⟩ := h14
  refine ⟨.inl rfl, ?_⟩
  refine Dr.x rfl rfl rfl rfl (e_buildSlice so_95 zo_3 zr_3_2 rfl rfl rfl (fillN_fill rfl) (fun b15 τ15 hb15 => ⟨.inl rfl, ?_⟩))
  replace h2 := hb15.sub _ _ h2
  replace h3 := hb15.sub _ _ h3
  have h15 := hb15.at_
  replace hsub := hsub.trans hb15.sub
  refine Dr.x rfl rfl rfl rfl (e_callF rfl rfl rfl ca_40 ((or_spec _ _ _ _ _ h15).mono fun v16 τ16 h16 => ?_))
  obtain ⟨rfl, rfl⟩ := h16
  refine ⟨.inl rfl, ?_⟩
  refine Dr.w rfl rfl rfl rfl (q_assign rfl) ?_
  refine Dr.done ?_
  refine St.keep [4, 3, 2, 0, 1] ?_
  show St _ _ _ [(4, _), (4, _), (3, _), (2, _), (0, _), (1, _)] _ _ _
  refine St.ret Try.func28 (.tmp rfl .nil) hsub ?_
  exact ⟨rfl, rfl⟩

theorem of_spec (σ : Heap) (a b c d : Int) (e f : Value) : Does Try.prog 29 #[.agg #[.int .i64 a, .int .u32 b, .int .u64 c, .int .i64 d, e, f]] σ (fun v τ => v = .agg #[.int .u64 c, .int .i64 a] ∧ σ = τ) := by
  refine Does.enter (n := 8) (l := [(0, _)]) Try.func29 rfl rfl (by simp) rfl ?_
  have hsub : Sub σ σ := Sub.rfl' σ
  refine St.seq ?_
  refine St.region rfl ?_
  refine Reg.x rfl rfl rfl (e_box rfl (cellsN_eq rfl) (fun b1 τ1 hb1 => ?_))
  have h1 := hb1.at_
  replace hsub := hsub.trans hb1.sub
  refine Reg.x rfl rfl rfl (e_alloc zo_84 (fun b2 τ2 hb2 => ?_))
  replace h1 := hb2.sub _ _ h1
  have h2 := hb2.at_
  have hsub1 := hsub
  replace hsub := hsub.trans hb2.sub
  refine Reg.done ?_
  refine St.keep [0, 1, 2] ?_
  show St _ _ _ [(2, _), (1, _), (0, _)] _ _ _
  refine St.seq ?_
  refine St.region rfl ?_
  refine Reg.q rfl rfl rfl (q_fieldAddr fo_34_2 rfl rfl) ?_
  refine Reg.q rfl rfl rfl (q_load1 ac_28 rfl (by assumption) rfl) ?_
  refine Reg.q rfl rfl rfl (q_fieldAddr fo_34_0 rfl rfl) ?_
  refine Reg.q rfl rfl rfl (q_load1 ac_3 rfl (by assumption) rfl) ?_
  refine Reg.q rfl rfl rfl (q_build rfl zo_84 pl_84 (fillN_fill rfl)) ?_
  refine Reg.no rfl rfl (e_store rfl rfl sz_84 rfl h2 (Nat.le_of_ble_eq_true rfl) rfl (storeN_row rfl) (fun τs1_5 hs1_5 hu1_5 => ?_))
  replace hsub := hsub1.trans (hu1_5.own hb2.sub hb2.none)
  refine Reg.done ?_
  refine St.keep [2, 1, 0] ?_
  show St _ _ _ [(2, _), (1, _), (0, _)] _ _ _
  refine St.ret Try.func29 (.agg ac_84 rfl (by assumption) rfl .nil) hsub ?_
  exact ⟨rfl, rfl⟩
end Go.Proofs.Ytdgdbnkhmdncdaa
