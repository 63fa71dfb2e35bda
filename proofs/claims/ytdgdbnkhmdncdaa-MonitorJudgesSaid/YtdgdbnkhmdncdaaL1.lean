/- The laws' helpers: is a trace short, and is the monitor awake? -/
import Derived.Test.YtdgdbnkhmdncdaaM6
import Derived.Test.YtdgdbnkhmdncdaaLw
set_option linter.unusedSectionVars false
set_option linter.unusedSimpArgs false
set_option linter.unusedVariables false
namespace Go.Proofs.Ytdgdbnkhmdncdaa
open Go.Gw Go.Cs
variable [Env]
set_option maxHeartbeats 1000000
namespace FL1
theorem ac_32 : aggCells Try.prog 32 = some none := by kernel_rfl
theorem ac_37 : aggCells Try.prog 37 = some none := by kernel_rfl
theorem ac_9 : aggCells Try.prog 9 = some none := by kernel_rfl
theorem ca_11 : callable Try.prog 11 = true := by kernel_rfl
theorem ca_6 : callable Try.prog 6 = true := by kernel_rfl
theorem ca_7 : callable Try.prog 7 = true := by kernel_rfl
theorem ca_8 : callable Try.prog 8 = true := by kernel_rfl
theorem ca_9 : callable Try.prog 9 = true := by kernel_rfl
theorem fo_34_4 : fieldOff Try.prog 34 4 = some 4 := by kernel_rfl
theorem fo_34_5 : fieldOff Try.prog 34 5 = some 5 := by kernel_rfl
theorem fo_39_5 : fieldOff Try.prog 39 5 = some 7 := by kernel_rfl
theorem fo_39_7 : fieldOff Try.prog 39 7 = some 17 := by kernel_rfl
theorem fo_39_8 : fieldOff Try.prog 39 8 = some 18 := by kernel_rfl
theorem pl_39 : places Try.prog 39 = some #[(0, 1), (1, 1), (2, 2), (4, 2), (6, 1), (7, 6), (13, 4), (17, 1), (18, 1)] := by kernel_rfl
theorem se_22 : sliceElem Try.prog 22 = some 19 := by kernel_rfl
theorem se_32 : sliceElem Try.prog 32 = some 1 := by kernel_rfl
theorem se_37 : sliceElem Try.prog 37 = some 2 := by kernel_rfl
theorem zo_39 : zeroOf Try.prog 39 = some #[.int .i64 0, .int .i64 0, .int .u64 0, .int .i64 0, .int .u64 0, .int .i64 0, .int .u64 0, .int .i64 0, .int .u32 0, .int .u64 0, .int .i64 0, .slice none 0 0, .string ⟨#[]⟩, .int .u64 0, .int .u64 0, .int .i64 0, .int .u64 0, .slice none 0 0, .string ⟨#[]⟩] := by kernel_rfl
end FL1
open FL1

theorem MonIs.ro {ρ τ : Heap} {rs : List Asr} {tb sb eb mb lb nb : Nat} {M : MTr} {N : Nat} (h : MonIs ρ τ rs tb sb eb mb lb nb M N) : Sub ρ τ := h.t.choose_spec.choose_spec.2
theorem mnew_mon (σ ρ : Heap) (rs : List Asr) (hS : Stars (ro ρ :: rs) σ) : Does Try.prog 6 #[] σ (fun v τ => ∃ tb sb eb mb lb nb, v = .pointer (some ⟨tb, 0, none⟩) ∧ MonIs ρ τ rs tb sb eb mb lb nb MTr.init 0) :=
  (mnew_spec σ _ hS).mono fun v τ ⟨tb, sb, eb, mb, lb, nb, hv, h⟩ => by
    refine ⟨tb, sb, eb, mb, lb, nb, hv, 0, none, [], [], [], [], [], ?_, rfl, ⟨rfl, fun _ => rfl, fun _ => rfl, fun _ => rfl, NowIs.nil [], fun s hs => (by cases hs), fun k => ⟨Nat.zero_le _, fun m hm => (by cases hm)⟩, Nat.zero_le _⟩⟩
    have h1 := (h.nils).ownNil (T := 56) (m := 1)
    replace h1 : Stars (ownA 56 1 none 0 0 [] :: mstsA [] [] :: pt tb _ :: rowsA 34 6 encSent Msg.cells sb (fun _ => []) :: mapA encWho eb [] :: mapA encConf mb [] :: mapA encI lb [] :: mapA encI nb [] :: ro ρ :: rs) τ := h1
    have h2 := (h1.top 1 rfl).back 7 (by simp)
    have h3 : Stars (ownA 56 1 none 0 0 [] :: pt tb _ :: rowsA 34 6 encSent Msg.cells sb (fun _ => []) :: mapA encWho eb [] :: mapA encConf mb [] :: mapA encI lb [] :: mapA encI nb [] :: mstsA [] [] :: ro ρ :: rs) τ := h2
    exact h3.back 6 (by simp)

theorem few_spec (σ : Heap) (es : List Ev) (p : Option Addr) (c : Nat) (hT : TraceIs σ p es) : Does Try.prog 5 #[.slice p es.length c] σ (fun v τ => ∃ b : Bool, v = .bool b ∧ (b = true → es.length ≤ 500) ∧ σ = τ) := by
  refine Does.enter (n := 56) (l := [(0, _)]) Try.func5 rfl rfl (by simp) rfl ?_
  have hS : Stars (ro σ :: []) σ := Stars.ro0 σ
  refine St.seq ?_
  refine St.region rfl ?_
  refine Reg.q rfl rfl rfl (q_assign rfl) ?_
  refine Reg.done ?_
  refine St.keep [0, 2] ?_
  show St _ _ _ [(2, _), (0, _)] _ _ _
  refine St.seq ?_
  refine St.region rfl ?_
  refine Reg.q rfl rfl rfl (q_assign rfl) ?_
  refine Reg.done ?_
  refine St.keep [2, 0, 3] ?_
  show St _ _ _ [(3, _), (2, _), (0, _)] _ _ _
  refine St.seq ?_
  refine St.seq ?_
  refine St.region rfl ?_
  refine Reg.q rfl rfl rfl (q_assign rfl) ?_
  refine Reg.done ?_
  refine St.keep [3, 2, 0, 4] ?_
  show St _ _ _ [(4, _), (3, _), (2, _), (0, _)] _ _ _
  refine St.block ?_
  refine St.loopw (Y := Nat × Int) (fun y => [(4, .int .i64 (y.1 : Nat)), (3, .int .i64 y.2)]) [2, 0] (fun y τ => τ = σ ∧ y.1 ≤ es.length ∧ y.1 ≤ 500 ∧ 0 ≤ y.2 ∧ y.2 ≤ 20000) (fun y => es.length - y.1) ((0, 0)) rfl (⟨rfl, Nat.zero_le _, Nat.zero_le _, by decide, by decide⟩) ?_
  intro ⟨i, n⟩ τ ⟨hτ, hi, h5, hn0, hn1⟩ back
  subst hτ
  simp only [] at hi h5 hn0 hn1
  show St _ _ _ [(4, _), (3, _), (2, _), (0, _)] _ _ _
  refine St.seq ?_
  refine St.seq ?_
  refine St.region rfl ?_
  refine Reg.q rfl rfl rfl (q_move rfl) ?_
  refine Reg.q rfl rfl rfl (q_move rfl) ?_
  refine Reg.q rfl rfl rfl (q_lenS rfl se_22 rfl) ?_
  refine Reg.q rfl rfl rfl (q_lt rfl rfl) ?_
  refine Reg.done ?_
  refine St.keep [4, 3, 2, 0, 8] ?_
  show St _ _ _ [(8, _), (4, _), (3, _), (2, _), (0, _)] _ _ _
  refine St.cond rfl (fun hc0 => ?_) (fun hc0 => ?_)
  · simp at hc0
    obtain ⟨e, he⟩ : ∃ e, es[i]? = some e := ⟨_, List.getElem?_eq_getElem hc0⟩
    obtain ⟨lb, lo, cs, TT, fz, hp, hb, hlt, hr⟩ := hT.row he
    obtain ⟨wa, la, ua⟩ := qd (min (e.m.pay.size : Int) 20000) 8 (by omega) (by omega) (by decide)
    obtain ⟨wb, lb, ub⟩ := qd (min (e.m.deps.length : Int) 20000) 8 (by omega) (by omega) (by decide)
    obtain ⟨wc, lc, uc⟩ := qd (min (e.names.length : Int) 20000) 8 (by omega) (by omega) (by decide)
    obtain ⟨wd, ld, ud⟩ := qd (min (e.st.size : Int) 20000) 16 (by omega) (by omega) (by decide)
    refine St.skip ?_
    refine St.seq ?_
    refine St.block ?_
    refine St.seq ?_
    refine St.draw0 [] [(0, .w), (1, .w), (2, .w), (3, .w), (4, .w), (5, .w), (6, .r), (7, .r), (8, .r), (9, .w), (10, .w), (11, .w), (12, .w), (13, .w), (14, .w), (15, .w), (16, .r), (17, .r), (18, .r), (19, .w), (20, .w), (21, .w), (22, .w), (23, .w), (24, .w), (25, .r), (26, .r), (27, .r), (28, .w), (29, .w), (30, .w), (31, .w), (32, .w), (33, .w), (34, .r), (35, .r), (36, .r), (37, .w), (38, .w), (39, .w)] mixed (by kernel_rfl) rfl ?_
    refine Dr.w rfl rfl rfl rfl (q_move rfl) ?_
    refine Dr.w rfl rfl rfl rfl (q_move rfl) ?_
    refine Dr.w rfl rfl rfl rfl (q_move rfl) ?_
    refine Dr.w rfl rfl rfl rfl (q_indexAt se_22 rfl hp rfl (by omega) rfl) ?_
    refine Dr.w rfl rfl rfl rfl (q_fieldAddr fo_39_5 rfl rfl) ?_
    refine Dr.w rfl rfl rfl rfl (q_fieldAddr fo_34_5 rfl rfl) ?_
    refine Dr.r rfl rfl rfl rfl (Sub.rfl' _) (q_load1 ac_9 rfl (hS.ro 0 rfl _ _ hb) (row_cell hr 12 rfl)) ?_
    refine Dr.r rfl rfl rfl rfl (Sub.rfl' _) (q_lenT rfl Try.underlying9 rfl) ?_
    refine Dr.r rfl rfl rfl rfl (Sub.rfl' _) (q_min rfl rfl rfl) ?_
    refine Dr.w rfl rfl rfl rfl (q_quo rfl rfl (by decide) wa) ?_
    refine Dr.w rfl rfl rfl rfl (q_add rfl rfl (wrap64 (by simp only []; omega))) ?_
    refine Dr.w rfl rfl rfl rfl (q_move rfl) ?_
    refine Dr.w rfl rfl rfl rfl (q_move rfl) ?_
    refine Dr.w rfl rfl rfl rfl (q_indexAt se_22 rfl hp rfl (by omega) rfl) ?_
    refine Dr.w rfl rfl rfl rfl (q_fieldAddr fo_39_5 rfl rfl) ?_
    refine Dr.w rfl rfl rfl rfl (q_fieldAddr fo_34_4 rfl rfl) ?_
    refine Dr.r rfl rfl rfl rfl (Sub.rfl' _) (q_load1 ac_32 rfl (hS.ro 0 rfl _ _ hb) (row_cell hr 11 rfl)) ?_
    refine Dr.r rfl rfl rfl rfl (Sub.rfl' _) (q_lenS rfl se_32 rfl) ?_
    refine Dr.r rfl rfl rfl rfl (Sub.rfl' _) (q_min rfl rfl rfl) ?_
    refine Dr.w rfl rfl rfl rfl (q_quo rfl rfl (by decide) wb) ?_
    refine Dr.w rfl rfl rfl rfl (q_add rfl rfl (wrap64 (by simp only []; omega))) ?_
    refine Dr.w rfl rfl rfl rfl (q_move rfl) ?_
    refine Dr.w rfl rfl rfl rfl (q_move rfl) ?_
    refine Dr.w rfl rfl rfl rfl (q_indexAt se_22 rfl hp rfl (by omega) rfl) ?_
    refine Dr.w rfl rfl rfl rfl (q_fieldAddr fo_39_7 rfl rfl) ?_
    refine Dr.r rfl rfl rfl rfl (Sub.rfl' _) (q_load1 ac_37 rfl (hS.ro 0 rfl _ _ hb) (row_cell hr 17 rfl)) ?_
    refine Dr.r rfl rfl rfl rfl (Sub.rfl' _) (q_lenS rfl se_37 rfl) ?_
    refine Dr.r rfl rfl rfl rfl (Sub.rfl' _) (q_min rfl rfl rfl) ?_
    refine Dr.w rfl rfl rfl rfl (q_quo rfl rfl (by decide) wc) ?_
    refine Dr.w rfl rfl rfl rfl (q_add rfl rfl (wrap64 (by simp only []; omega))) ?_
    refine Dr.w rfl rfl rfl rfl (q_move rfl) ?_
    refine Dr.w rfl rfl rfl rfl (q_move rfl) ?_
    refine Dr.w rfl rfl rfl rfl (q_indexAt se_22 rfl hp rfl (by omega) rfl) ?_
    refine Dr.w rfl rfl rfl rfl (q_fieldAddr fo_39_8 rfl rfl) ?_
    refine Dr.r rfl rfl rfl rfl (Sub.rfl' _) (q_load1 ac_9 rfl (hS.ro 0 rfl _ _ hb) (row_cell hr 18 rfl)) ?_
    refine Dr.r rfl rfl rfl rfl (Sub.rfl' _) (q_lenT rfl Try.underlying9 rfl) ?_
    refine Dr.r rfl rfl rfl rfl (Sub.rfl' _) (q_min rfl rfl rfl) ?_
    refine Dr.w rfl rfl rfl rfl (q_quo rfl rfl (by decide) wd) ?_
    refine Dr.w rfl rfl rfl rfl (q_add rfl rfl (wrap64 (by simp only []; omega))) ?_
    refine Dr.w rfl rfl rfl rfl (q_assign rfl) ?_
    refine Dr.done ?_
    refine St.keep [8, 4, 3, 2, 0] ?_
    show St _ _ _ [(3, _), (8, _), (4, _), (3, _), (2, _), (0, _)] _ _ _
    refine St.seq ?_
    refine St.region rfl ?_
    refine Reg.q rfl rfl rfl (q_move rfl) ?_
    refine Reg.q rfl rfl rfl (q_ge rfl rfl) ?_
    refine Reg.q rfl rfl rfl (q_move rfl) ?_
    refine Reg.split (d := 52) rfl (fun hg52 => ?_) (fun hg52 => ?_)
    · skip
      refine Reg.skip rfl rfl rfl ?_
      refine Reg.skip rfl rfl rfl ?_
      refine Reg.q rfl rfl rfl (q_pickT rfl rfl) ?_
      refine Reg.done ?_
      refine St.keep [3, 8, 4, 3, 2, 0, 55] ?_
      show St _ _ _ [(55, _), (3, _), (8, _), (4, _), (3, _), (2, _), (0, _)] _ _ _
      refine St.condT rfl ?_
      refine St.seq ?_
      refine St.region rfl ?_
      refine Reg.q rfl rfl rfl (q_assign rfl) ?_
      refine Reg.done ?_
      refine St.keep [55, 3, 8, 4, 3, 2, 0] ?_
      show St _ _ _ [(2, _), (55, _), (3, _), (8, _), (4, _), (3, _), (2, _), (0, _)] _ _ _
      refine St.ret Try.func5 (.tmp rfl .nil) (Sub.rfl' _) ?_
      exact ⟨false, rfl, fun h => (by cases h), rfl⟩
    · skip
      refine Reg.q rfl rfl rfl (q_move rfl) ?_
      refine Reg.q rfl rfl rfl (q_gt rfl rfl) ?_
      refine Reg.q rfl rfl rfl (q_pickF rfl rfl) ?_
      refine Reg.done ?_
      refine St.keep [3, 8, 4, 3, 2, 0, 55] ?_
      show St _ _ _ [(55, _), (3, _), (8, _), (4, _), (3, _), (2, _), (0, _)] _ _ _
      refine St.cond rfl (fun hc1 => ?_) (fun hc1 => ?_)
      · skip
        refine St.seq ?_
        refine St.region rfl ?_
        refine Reg.q rfl rfl rfl (q_assign rfl) ?_
        refine Reg.done ?_
        refine St.keep [55, 3, 8, 4, 3, 2, 0] ?_
        show St _ _ _ [(2, _), (55, _), (3, _), (8, _), (4, _), (3, _), (2, _), (0, _)] _ _ _
        refine St.ret Try.func5 (.tmp rfl .nil) (Sub.rfl' _) ?_
        exact ⟨false, rfl, fun h => (by cases h), rfl⟩
      · skip
        refine St.skip ?_
        refine St.inBlock ?_
        refine St.region rfl ?_
        refine Reg.q rfl rfl rfl (q_move rfl) ?_
        refine Reg.q rfl rfl rfl (q_add rfl rfl (inc64 (by simp only []; omega))) ?_
        refine Reg.q rfl rfl rfl (q_assign rfl) ?_
        refine Reg.done ?_
        refine St.keep [55, 3, 8, 4, 3, 2, 0] ?_
        show St _ _ _ [(4, _), (55, _), (3, _), (8, _), (4, _), (3, _), (2, _), (0, _)] _ _ _
        refine St.conv (SubL.list (by rfl)) (Sub.rfl' _) (back ((i + 1, (((n + ((min (e.m.pay.size : Int) 20000).tdiv 8)) + ((min (e.m.deps.length : Int) 20000).tdiv 8)) + ((min (e.names.length : Int) 20000).tdiv 8)) + ((min (e.st.size : Int) 20000).tdiv 16))) _ ?_ ?_)
        · exact ⟨rfl, by simp only []; omega, by simp only []; simp at hg52; omega, by simp only []; omega, by simp only []; have h0 := of_decide_eq_false hc1; simp only [] at h0; omega⟩
        · simp only []; omega
  · simp at hc0
    refine St.exit rfl ?_
    refine St.seq ?_
    refine St.region rfl ?_
    refine Reg.q rfl rfl rfl (q_assign rfl) ?_
    refine Reg.done ?_
    refine St.keep [8, 4, 3, 2, 0] ?_
    show St _ _ _ [(2, _), (8, _), (4, _), (3, _), (2, _), (0, _)] _ _ _
    refine St.ret Try.func5 (.tmp rfl .nil) (Sub.rfl' _) ?_
    exact ⟨true, rfl, fun _ => by omega, rfl⟩

theorem awake_spec (σ : Heap) : Does Try.prog 4 #[] σ (fun v τ => v = .bool true ∧ σ = τ) := by
  refine Does.enter (n := 44) (l := []) Try.func4 rfl rfl (by simp) rfl ?_
  have hS : Stars (ro σ :: []) σ := Stars.ro0 σ
  refine St.seq ?_
  refine St.region rfl ?_
  refine Reg.q rfl rfl rfl (q_assign rfl) ?_
  refine Reg.done ?_
  refine St.keep [0] ?_
  show St _ _ _ [(0, _)] _ _ _
  refine St.seq ?_
  refine St.region rfl ?_
  refine Reg.x rfl rfl rfl (e_callF rfl rfl rfl ca_6 ((mnew_mon _ σ [] hS).mono fun v6 τ6 h6 => ?_))
  obtain ⟨tb, sb, eb, mb, lb, nb, rfl, hMon⟩ := h6
  refine Reg.q rfl rfl rfl (q_assign rfl) ?_
  refine Reg.done ?_
  refine St.keep [0, 1] ?_
  show St _ _ _ [(1, _), (0, _)] _ _ _
  refine St.seq ?_
  refine St.seq ?_
  refine St.region rfl ?_
  refine Reg.q rfl rfl rfl (q_move rfl) ?_
  refine Reg.q rfl rfl rfl (QOp.eq (v' := .bool false) (q_peqn Try.underlying25 rfl rfl) rfl) ?_
  refine Reg.done ?_
  refine St.keep [1, 0, 8] ?_
  show St _ _ _ [(8, _), (1, _), (0, _)] _ _ _
  refine St.condF rfl ?_
  refine St.skip ?_
  refine St.seq ?_
  refine St.region rfl ?_
  refine Reg.q rfl rfl rfl (q_move rfl) ?_
  refine Reg.q rfl rfl rfl (q_build rfl zo_39 pl_39 (fillN_fill rfl)) ?_
  refine Reg.x rfl rfl rfl (e_callF rfl rfl rfl ca_7 ((madd_spec _ _ _ _ _ _ _ _ _ _ _ hMon (by decide) (by decide) (ev0 5 0) (ev0_ok _ _ _)).mono fun v11 τ11 h11 => ?_))
  obtain ⟨ρ1, n1, q1, k1, hs1, _, hv, hMon⟩ := h11
  rw [aw1] at hv
  subst hv
  refine Reg.q rfl rfl rfl (q_move rfl) ?_
  refine Reg.q rfl rfl rfl (q_build rfl zo_39 pl_39 (fillN_fill rfl)) ?_
  refine Reg.x rfl rfl rfl (e_callF rfl rfl rfl ca_7 ((madd_spec _ _ _ _ _ _ _ _ _ _ _ hMon (by decide) (by rw [add_len]; decide) (ev0 2 1) (ev0_ok _ _ _)).mono fun v14 τ14 h14 => ?_))
  obtain ⟨ρ2, n2, q2, k2, hs2, _, hv, hMon⟩ := h14
  rw [aw2] at hv
  subst hv
  obtain ⟨a1, a2, a3⟩ := aw3 n1 q1 k1 n2 q2 k2
  refine Reg.q rfl rfl rfl (q_assign rfl) ?_
  refine Reg.q rfl rfl rfl (q_assign rfl) ?_
  refine Reg.done ?_
  refine St.keep [8, 1, 0, 2, 3] ?_
  show St _ _ _ [(3, _), (2, _), (8, _), (1, _), (0, _)] _ _ _
  refine St.seq ?_
  refine St.region rfl ?_
  refine Reg.q rfl rfl rfl (q_move rfl) ?_
  refine Reg.x rfl rfl rfl (e_callF rfl rfl rfl ca_8 ((mfirst_spec _ _ _ _ _ _ _ _ _ _ _ hMon).mono fun v17 τ17 h17 => ?_))
  obtain ⟨hv, rfl⟩ := h17
  rw [a2, a3] at hv
  subst hv
  refine Reg.q rfl rfl rfl (q_move rfl) ?_
  refine Reg.q rfl rfl rfl (q_extract rfl rfl) ?_
  refine Reg.q rfl rfl rfl (q_extract rfl rfl) ?_
  refine Reg.q rfl rfl rfl (q_assign rfl) ?_
  refine Reg.q rfl rfl rfl (q_assign rfl) ?_
  refine Reg.done ?_
  refine St.keep [3, 2, 8, 1, 0, 4, 5] ?_
  show St _ _ _ [(5, _), (4, _), (3, _), (2, _), (8, _), (1, _), (0, _)] _ _ _
  refine St.seq ?_
  refine St.region rfl ?_
  refine Reg.q rfl rfl rfl (q_move rfl) ?_
  refine Reg.q rfl rfl rfl (q_ieq rfl rfl) ?_
  refine Reg.q rfl rfl rfl (q_move rfl) ?_
  refine Reg.split (d := 22) rfl (fun hg22 => ?_) (fun hg22 => ?_)
  · skip
    refine Reg.q rfl rfl rfl (q_move rfl) ?_
    refine Reg.q rfl rfl rfl (q_ieq rfl rfl) ?_
    refine Reg.q rfl rfl rfl (q_pickT rfl rfl) ?_
    refine Reg.q rfl rfl rfl (q_move rfl) ?_
    refine Reg.split (d := 26) rfl (fun hg26 => ?_) (fun hg26 => ?_)
    · skip
      refine Reg.q rfl rfl rfl (q_move rfl) ?_
      refine Reg.x rfl rfl rfl (e_callF rfl rfl rfl ca_9 ((mbroken_spec _ _ _ _ _ _ _ _ _ _ _ hMon).mono fun v28 τ28 h28 => ?_))
      obtain ⟨hv, rfl⟩ := h28
      rw [aw2] at hv
      subst hv
      refine Reg.q rfl rfl rfl (q_ieq rfl rfl) ?_
      refine Reg.q rfl rfl rfl (q_pickT rfl rfl) ?_
      refine Reg.q rfl rfl rfl (q_move rfl) ?_
      refine Reg.split (d := 31) rfl (fun hg31 => ?_) (fun hg31 => ?_)
      · skip
        refine Reg.q rfl rfl rfl (q_move rfl) ?_
        refine Reg.x rfl rfl rfl (e_callF rfl rfl rfl ca_11 ((mlen_spec _ _ _ _ _ _ _ _ _ _ _ hMon).mono fun v33 τ33 h33 => ?_))
        obtain ⟨hv, rfl⟩ := h33
        rw [a1] at hv
        subst hv
        refine Reg.q rfl rfl rfl (q_ieq rfl rfl) ?_
        refine Reg.q rfl rfl rfl (q_pickT rfl rfl) ?_
        refine Reg.q rfl rfl rfl (q_move rfl) ?_
        refine Reg.split (d := 36) rfl (fun hg36 => ?_) (fun hg36 => ?_)
        · skip
          refine Reg.q rfl rfl rfl (q_move rfl) ?_
          refine Reg.q rfl rfl rfl (q_ieq rfl rfl) ?_
          refine Reg.q rfl rfl rfl (q_pickT rfl rfl) ?_
          refine Reg.q rfl rfl rfl (q_move rfl) ?_
          refine Reg.split (d := 40) rfl (fun hg40 => ?_) (fun hg40 => ?_)
          · skip
            refine Reg.q rfl rfl rfl (q_move rfl) ?_
            refine Reg.q rfl rfl rfl (q_ieq rfl rfl) ?_
            refine Reg.q rfl rfl rfl (q_pickT rfl rfl) ?_
            refine Reg.q rfl rfl rfl (q_assign rfl) ?_
            refine Reg.done ?_
            refine St.keep [5, 4, 3, 2, 8, 1, 0] ?_
            show St _ _ _ [(0, _), (5, _), (4, _), (3, _), (2, _), (8, _), (1, _), (0, _)] _ _ _
            refine St.ret Try.func4 (.tmp rfl .nil) (hs1.trans (hs2.trans hMon.ro)) ?_
            exact ⟨rfl, rfl⟩
          · exact absurd hg40 (by decide) -- PRUNE
        · exact absurd hg36 (by decide) -- PRUNE
      · exact absurd hg31 (by decide) -- PRUNE
    · exact absurd hg26 (by decide) -- PRUNE
  · exact absurd hg22 (by decide) -- PRUNE
end Go.Proofs.Ytdgdbnkhmdncdaa
