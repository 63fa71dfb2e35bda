/- The law: a monitor that was told a whole trace says what the judge says of it. -/
import Derived.Test.YtdgdbnkhmdncdaaL1
import Derived.Test.YtdgdbnkhmdncdaaJ10
import Derived.Test.YtdgdbnkhmdncdaaLz
set_option linter.unusedSectionVars false
set_option linter.unusedSimpArgs false
set_option linter.unusedVariables false
namespace Go.Proofs.Ytdgdbnkhmdncdaa
open Go.Gw Go.Cs
variable [Env]
set_option maxHeartbeats 1000000
namespace FL2
theorem ac_39 : aggCells Try.prog 39 = some (some 19) := by kernel_rfl
theorem ca_10 : callable Try.prog 10 = true := by kernel_rfl
theorem ca_4 : callable Try.prog 4 = true := by kernel_rfl
theorem ca_5 : callable Try.prog 5 = true := by kernel_rfl
theorem ca_6 : callable Try.prog 6 = true := by kernel_rfl
theorem ca_7 : callable Try.prog 7 = true := by kernel_rfl
theorem ca_8 : callable Try.prog 8 = true := by kernel_rfl
theorem ca_9 : callable Try.prog 9 = true := by kernel_rfl
theorem se_22 : sliceElem Try.prog 22 = some 19 := by kernel_rfl
end FL2
open FL2

theorem mjudges_spec (σ : Heap) (es : List Ev) (p : Option Addr) (c : Nat) (hT : TraceIs σ p es) (hcap : es.length ≤ c) : Does Try.prog 3 #[.slice p es.length c] σ (fun v τ => v = .bool true ∧ σ = τ) := by
  refine Does.enter (n := 67) (l := [(0, _)]) Try.func3 rfl rfl (by simp) rfl ?_
  have hS : Stars (ro σ :: []) σ := Stars.ro0 σ
  refine St.seq ?_
  refine St.region rfl ?_
  refine Reg.q rfl rfl rfl (q_assign rfl) ?_
  refine Reg.done ?_
  refine St.keep [0, 2] ?_
  show St _ _ _ [(2, _), (0, _)] _ _ _
  refine St.seq ?_
  refine St.seq ?_
  refine St.region rfl ?_
  refine Reg.x rfl rfl rfl (e_callF rfl rfl rfl ca_4 ((awake_spec _).mono fun v7 τ7 h7 => ?_))
  obtain ⟨rfl, rfl⟩ := h7
  refine Reg.q rfl rfl rfl (q_not rfl) ?_
  refine Reg.done ?_
  refine St.keep [2, 0, 8] ?_
  show St _ _ _ [(8, _), (2, _), (0, _)] _ _ _
  refine St.condF rfl ?_
  refine St.skip ?_
  refine St.seq ?_
  refine St.seq ?_
  refine St.region rfl ?_
  refine Reg.q rfl rfl rfl (q_move rfl) ?_
  refine Reg.x rfl rfl rfl (e_callF rfl rfl rfl ca_5 ((few_spec _ es p c hT).mono fun v10 τ10 h10 => ?_))
  obtain ⟨fw, rfl, hfw, rfl⟩ := h10
  refine Reg.q rfl rfl rfl (q_not rfl) ?_
  refine Reg.done ?_
  refine St.keep [8, 2, 0, 11] ?_
  show St _ _ _ [(11, _), (8, _), (2, _), (0, _)] _ _ _
  refine St.cond rfl (fun hc1 => ?_) (fun hc1 => ?_)
  · skip
    refine St.seq ?_
    refine St.region rfl ?_
    refine Reg.q rfl rfl rfl (q_assign rfl) ?_
    refine Reg.done ?_
    refine St.keep [11, 8, 2, 0] ?_
    show St _ _ _ [(2, _), (11, _), (8, _), (2, _), (0, _)] _ _ _
    refine St.ret Try.func3 (.tmp rfl .nil) (Sub.rfl' _) ?_
    exact ⟨rfl, rfl⟩
  · have hes : es.length ≤ 500 := hfw (by simpa using hc1)
    refine St.skip ?_
    refine St.seq ?_
    refine St.region rfl ?_
    refine Reg.x rfl rfl rfl (e_callF rfl rfl rfl ca_6 ((mnew_mon _ σ [] hS).mono fun v12 τ12 h12 => ?_))
    obtain ⟨tb, sb, eb, mb, lb, nb, rfl, hMon⟩ := h12
    refine Reg.q rfl rfl rfl (q_assign rfl) ?_
    refine Reg.done ?_
    refine St.keep [11, 8, 2, 0, 3] ?_
    show St _ _ _ [(3, _), (11, _), (8, _), (2, _), (0, _)] _ _ _
    refine St.seq ?_
    refine St.seq ?_
    refine St.region rfl ?_
    refine Reg.q rfl rfl rfl (q_assign rfl) ?_
    refine Reg.done ?_
    refine St.keep [3, 11, 8, 2, 0, 4] ?_
    show St _ _ _ [(4, _), (3, _), (11, _), (8, _), (2, _), (0, _)] _ _ _
    refine St.block ?_
    refine St.loopw (Y := Nat) (fun y => [(4, .int .i64 (y : Nat))]) [3, 11, 8, 2, 0] (fun i τ => i ≤ es.length ∧ ∃ ρ L, Sub σ ρ ∧ L.length = i ∧ RelL L (es.take i) ∧ MonIs ρ τ [] tb sb eb mb lb nb (run L) i) (fun i => es.length - i) (0) rfl (⟨Nat.zero_le _, σ, [], Sub.rfl' _, rfl, rfl, hMon⟩) ?_
    intro i τ ⟨hi, ρ, L, hs, hL, hR, hMon⟩ back
    show St _ _ _ [(4, _), (3, _), (11, _), (8, _), (2, _), (0, _)] _ _ _
    refine St.seq ?_
    refine St.seq ?_
    refine St.region rfl ?_
    refine Reg.q rfl rfl rfl (q_move rfl) ?_
    refine Reg.q rfl rfl rfl (q_move rfl) ?_
    refine Reg.q rfl rfl rfl (q_lenS rfl se_22 rfl) ?_
    refine Reg.q rfl rfl rfl (q_lt rfl rfl) ?_
    refine Reg.done ?_
    refine St.keep [4, 3, 11, 8, 2, 0, 16] ?_
    show St _ _ _ [(16, _), (4, _), (3, _), (11, _), (8, _), (2, _), (0, _)] _ _ _
    refine St.cond rfl (fun hc2 => ?_) (fun hc2 => ?_)
    · simp at hc2
      obtain ⟨e, he⟩ : ∃ e, es[i]? = some e := ⟨_, List.getElem?_eq_getElem hc2⟩
      have hTr := hT.up hs
      obtain ⟨lb_, lo, cs, TT, fz, hp, hb, hlt, hr⟩ := (hTr.up hMon.ro).row he
      have hlen := run_len L
      refine St.skip ?_
      refine St.seq ?_
      refine St.block ?_
      refine St.region rfl ?_
      refine Reg.q rfl rfl rfl (q_move rfl) ?_
      refine Reg.q rfl rfl rfl (q_move rfl) ?_
      refine Reg.q rfl rfl rfl (q_move rfl) ?_
      refine Reg.q rfl rfl rfl (q_indexAt se_22 rfl hp rfl (by omega) rfl) ?_
      refine Reg.q rfl rfl rfl (q_loadA ac_39 rfl hb (row_partN hr 0 19 (by decide) rfl rfl)) ?_
      refine Reg.x rfl rfl rfl (e_callF rfl rfl rfl ca_7 ((madd_spec _ ρ [] tb sb eb mb lb nb (run L) i hMon (by omega) (by omega) e (hTr.2 e (List.mem_of_getElem? he))).mono fun v24 τ24 h24 => ?_))
      obtain ⟨ρ2, n2, q2, k2, hs2, hok2, rfl, hMon2⟩ := h24
      refine Reg.done ?_
      refine St.keep [16, 4, 3, 11, 8, 2, 0] ?_
      show St _ _ _ [(16, _), (4, _), (3, _), (11, _), (8, _), (2, _), (0, _)] _ _ _
      refine St.inBlock ?_
      refine St.region rfl ?_
      refine Reg.q rfl rfl rfl (q_move rfl) ?_
      refine Reg.q rfl rfl rfl (q_add rfl rfl (inc64 (by omega))) ?_
      refine Reg.q rfl rfl rfl (q_assign rfl) ?_
      refine Reg.done ?_
      refine St.keep [16, 4, 3, 11, 8, 2, 0] ?_
      show St _ _ _ [(4, _), (16, _), (4, _), (3, _), (11, _), (8, _), (2, _), (0, _)] _ _ _
      refine St.conv (SubL.list (by rfl)) (Sub.rfl' _) (back (i + 1) _ ?_ ?_)
      · exact ⟨by omega, ρ2, L ++ [(n2, e.at_ q2 k2)], hs.trans hs2, by simp [hL], hR.snoc he n2 k2 q2, by rw [run_snoc]; exact hMon2⟩
      · omega
    · simp at hc2
      obtain rfl : i = es.length := by omega
      rw [List.take_length] at hR
      have hlaw := law_bad hR
      have hTr := (hT.up hs).up hMon.ro
      have hfirst := law_first L
      refine St.exit rfl ?_
      refine St.seq ?_
      refine St.region rfl ?_
      refine Reg.q rfl rfl rfl (q_move rfl) ?_
      refine Reg.x rfl rfl rfl (e_callF rfl rfl rfl ca_8 ((mfirst_spec _ ρ [] tb sb eb mb lb nb (run L) es.length hMon).mono fun v27 τ27 h27 => ?_))
      obtain ⟨rfl, rfl⟩ := h27
      refine Reg.q rfl rfl rfl (q_move rfl) ?_
      refine Reg.q rfl rfl rfl (q_extract rfl rfl) ?_
      refine Reg.q rfl rfl rfl (q_extract rfl rfl) ?_
      refine Reg.q rfl rfl rfl (q_assign rfl) ?_
      refine Reg.q rfl rfl rfl (q_assign rfl) ?_
      refine Reg.done ?_
      refine St.keep [16, 4, 3, 11, 8, 2, 0, 5, 6] ?_
      show St _ _ _ [(6, _), (5, _), (16, _), (4, _), (3, _), (11, _), (8, _), (2, _), (0, _)] _ _ _
      refine St.seq ?_
      refine St.seq ?_
      refine St.region rfl ?_
      refine Reg.q rfl rfl rfl (q_move rfl) ?_
      refine Reg.x rfl rfl rfl (e_callF rfl rfl rfl ca_9 ((mbroken_spec _ ρ [] tb sb eb mb lb nb (run L) es.length hMon).mono fun v31 τ31 h31 => ?_))
      obtain ⟨rfl, rfl⟩ := h31
      refine Reg.q rfl rfl rfl (q_move rfl) ?_
      refine Reg.x rfl rfl rfl (e_callF rfl rfl rfl ca_10 ((jevs_spec _ es p c hTr (by omega)).mono fun v33 τ33 h33 => ?_))
      obtain ⟨rfl, rfl⟩ := h33
      refine Reg.q rfl rfl rfl (q_ine rfl rfl) ?_
      refine Reg.q rfl rfl rfl (q_move rfl) ?_
      refine Reg.split (d := 35) rfl (fun hg35 => ?_) (fun hg35 => ?_)
      · exact absurd hg35 (by rw [hlaw]; simp) -- PRUNE
      · skip
        refine Reg.q rfl rfl rfl (q_move rfl) ?_
        refine Reg.q rfl rfl rfl (q_ieq rfl rfl) ?_
        refine Reg.q rfl rfl rfl (q_move rfl) ?_
        refine Reg.x rfl rfl rfl (e_callF rfl rfl rfl ca_9 ((mbroken_spec _ ρ [] tb sb eb mb lb nb (run L) es.length hMon).mono fun v39 τ39 h39 => ?_))
        obtain ⟨rfl, rfl⟩ := h39
        refine Reg.q rfl rfl rfl (q_ieq rfl rfl) ?_
        refine Reg.q rfl rfl rfl (q_bne Try.underlying4 rfl rfl) ?_
        refine Reg.q rfl rfl rfl (q_pickF rfl rfl) ?_
        refine Reg.q rfl rfl rfl (q_move rfl) ?_
        refine Reg.split (d := 43) rfl (fun hg43 => ?_) (fun hg43 => ?_)
        · exact absurd hg43 (by
            rcases hfirst with ⟨h1, h2⟩ | ⟨n, h1, h2, h3, h4, h5, h6⟩
            · rw [h1, h2]; decide
            · rw [h3]; have e1 : ((n : Int) == 0) = false := by simp; omega
              have e2 : (least (run L).bad == 0) = false := by simpa using h6
              rw [e1, e2]; decide) -- PRUNE
        · skip
          refine Reg.q rfl rfl rfl (q_move rfl) ?_
          refine Reg.q rfl rfl rfl (q_move rfl) ?_
          refine Reg.q rfl rfl rfl (q_lenS rfl se_22 rfl) ?_
          refine Reg.q rfl rfl rfl (QOp.eq (v' := .bool false) (q_gt rfl rfl) (by rcases hfirst with ⟨h1, h2⟩ | ⟨n, h1, h2, h3, h4, h5, h6⟩; (rw [h1]; simp); (rw [h3]; simp; omega))) ?_
          refine Reg.q rfl rfl rfl (q_pickF rfl rfl) ?_
          refine Reg.done ?_
          refine St.keep [6, 5, 16, 4, 3, 11, 8, 2, 0, 48] ?_
          show St _ _ _ [(48, _), (6, _), (5, _), (16, _), (4, _), (3, _), (11, _), (8, _), (2, _), (0, _)] _ _ _
          refine St.cond rfl (fun hc3 => ?_) (fun hc3 => ?_)
          · exact absurd hc3 (by simp) -- PRUNE
          · skip
            refine St.skip ?_
            refine St.seq ?_
            refine St.region rfl ?_
            refine Reg.q rfl rfl rfl (q_move rfl) ?_
            refine Reg.q rfl rfl rfl (q_ieq rfl rfl) ?_
            refine Reg.q rfl rfl rfl (q_move rfl) ?_
            refine Reg.split (d := 51) rfl (fun hg51 => ?_) (fun hg51 => ?_)
            · skip
              refine Reg.skip rfl rfl rfl ?_
              refine Reg.skip rfl rfl rfl ?_
              refine Reg.skip rfl rfl rfl ?_
              refine Reg.skip rfl rfl rfl ?_
              refine Reg.skip rfl rfl rfl ?_
              refine Reg.skip rfl rfl rfl ?_
              refine Reg.skip rfl rfl rfl ?_
              refine Reg.skip rfl rfl rfl ?_
              refine Reg.skip rfl rfl rfl ?_
              refine Reg.skip rfl rfl rfl ?_
              refine Reg.skip rfl rfl rfl ?_
              refine Reg.skip rfl rfl rfl ?_
              refine Reg.skip rfl rfl rfl ?_
              refine Reg.skip rfl rfl rfl ?_
              refine Reg.q rfl rfl rfl (q_pickT rfl rfl) ?_
              refine Reg.q rfl rfl rfl (q_assign rfl) ?_
              refine Reg.done ?_
              refine St.keep [48, 6, 5, 16, 4, 3, 11, 8, 2, 0] ?_
              show St _ _ _ [(2, _), (48, _), (6, _), (5, _), (16, _), (4, _), (3, _), (11, _), (8, _), (2, _), (0, _)] _ _ _
              refine St.ret Try.func3 (.tmp rfl .nil) (hs.trans hMon.ro) ?_
              exact ⟨rfl, rfl⟩
            · obtain ⟨n, h1, h2, h3, h4, h5, h6⟩ : ∃ n : Nat, 1 ≤ n ∧ n ≤ L.length ∧ (run L).at_ = n ∧ (run L).rule = least (run (L.take n)).bad ∧ least (run (L.take (n - 1))).bad = 0 ∧ least (run L).bad ≠ 0 := by
                rcases hfirst with ⟨h1, h2⟩ | h
                · rw [h1] at hg51; cases hg51
                · exact h
              have l1 : (es.take n).length = n := by rw [List.length_take]; omega
              have l2 : (es.take (n - 1)).length = n - 1 := by rw [List.length_take]; omega
              have law1 := law_bad (hR.take n)
              have law2 := law_bad (hR.take (n - 1))
              have hT1 := hTr.take n (by omega)
              have hT2 := hTr.take (n - 1) (by omega)
              refine Reg.q rfl rfl rfl (q_move rfl) ?_
              refine Reg.q rfl rfl rfl (q_move rfl) ?_
              refine Reg.q rfl rfl rfl (q_sliceTo se_22 rfl (by intro a ha; obtain ⟨⟨_, h⟩, _⟩ := hTr; rw [ha] at h; rcases h with h | h; (omega); (exact h.1)) (show _ = some (Value.int .i64 (n : Int)) by rw [← h3]; rfl) (by omega)) ?_
              refine Reg.x rfl rfl rfl (e_callF rfl rfl rfl ca_10 (((show Does _ _ #[.slice p n c] _ _ from l1 ▸ jevs_spec _ (es.take n) p c hT1 (by omega))).mono fun v55 τ55 h55 => ?_))
              obtain ⟨rfl, rfl⟩ := h55
              refine Reg.q rfl rfl rfl (q_move rfl) ?_
              refine Reg.q rfl rfl rfl (q_ieq rfl rfl) ?_
              refine Reg.q rfl rfl rfl (q_move rfl) ?_
              refine Reg.split (d := 58) rfl (fun hg58 => ?_) (fun hg58 => ?_)
              · skip
                refine Reg.q rfl rfl rfl (q_move rfl) ?_
                refine Reg.q rfl rfl rfl (q_move rfl) ?_
                refine Reg.q rfl rfl rfl (q_sub rfl rfl (show _ = ((n - 1 : Nat) : Int) by rw [h3]; exact (wrap64 (by omega)).trans (by omega))) ?_
                refine Reg.q rfl rfl rfl (q_sliceTo se_22 rfl (by intro a ha; obtain ⟨⟨_, h⟩, _⟩ := hTr; rw [ha] at h; rcases h with h | h; (omega); (exact h.1)) rfl (by omega)) ?_
                refine Reg.x rfl rfl rfl (e_callF rfl rfl rfl ca_10 (((show Does _ _ #[.slice p (n - 1) c] _ _ from l2 ▸ jevs_spec _ (es.take (n - 1)) p c hT2 (by omega))).mono fun v63 τ63 h63 => ?_))
                obtain ⟨rfl, rfl⟩ := h63
                refine Reg.q rfl rfl rfl (q_ieq rfl rfl) ?_
                refine Reg.q rfl rfl rfl (q_pickT rfl rfl) ?_
                refine Reg.q rfl rfl rfl (q_pickF rfl rfl) ?_
                refine Reg.q rfl rfl rfl (q_assign rfl) ?_
                refine Reg.done ?_
                refine St.keep [48, 6, 5, 16, 4, 3, 11, 8, 2, 0] ?_
                show St _ _ _ [(2, _), (48, _), (6, _), (5, _), (16, _), (4, _), (3, _), (11, _), (8, _), (2, _), (0, _)] _ _ _
                refine St.ret Try.func3 (.tmp rfl .nil) (hs.trans hMon.ro) ?_
                exact ⟨by rw [← law2, h5]; rfl, rfl⟩
              · exact absurd hg58 (by rw [← law1, h4]; simp) -- PRUNE
end Go.Proofs.Ytdgdbnkhmdncdaa
