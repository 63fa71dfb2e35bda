/- The judge: is a trace one of the extended virtual synchrony? -/
import Derived.Test.YtdgdbnkhmdncdaaJ5
import Derived.Test.YtdgdbnkhmdncdaaJ6
import Derived.Test.YtdgdbnkhmdncdaaJ9
set_option linter.unusedSectionVars false
set_option linter.unusedSimpArgs false
set_option linter.unusedVariables false
namespace Go.Proofs.Ytdgdbnkhmdncdaa
open Go.Gw Go.Cs
variable [Env]
set_option maxHeartbeats 1000000
namespace FJ10
theorem ac_50 : aggCells Try.prog 50 = some none := by kernel_rfl
theorem ca_18 : callable Try.prog 18 = true := by kernel_rfl
theorem ca_19 : callable Try.prog 19 = true := by kernel_rfl
theorem ca_20 : callable Try.prog 20 = true := by kernel_rfl
theorem ca_21 : callable Try.prog 21 = true := by kernel_rfl
theorem fo_70_2 : fieldOff Try.prog 70 2 = some 2 := by kernel_rfl
theorem zv_4 : zeroV Try.prog 4 = some (.bool false) := by kernel_rfl
end FJ10
open FJ10

theorem jevs_spec (σ : Heap) (es : List Ev) (p : Option Addr) (c : Nat) (hT : TraceIs σ p es) (hes : es.length ≤ 100000) : Does Try.prog 10 #[.slice p es.length c] σ (fun v τ => v = .int .i64 (evsOf es) ∧ σ = τ) := by
  refine Does.enter (n := 24) (l := [(0, _)]) Try.func10 rfl rfl (by simp) rfl ?_
  have hS : Stars (ro σ :: []) σ := Stars.ro0 σ
  refine St.seq ?_
  refine St.region rfl ?_
  refine Reg.q rfl rfl rfl (q_assign rfl) ?_
  refine Reg.done ?_
  refine St.keep [0, 2] ?_
  show St _ _ _ [(2, _), (0, _)] _ _ _
  refine St.seq ?_
  refine St.region rfl ?_
  refine Reg.q rfl rfl rfl (q_move rfl) ?_
  refine Reg.x rfl rfl rfl (e_callF rfl rfl rfl ca_18 ((jthrough_spec _ σ [] es p c hT hes hS).mono fun v6 τ6 h6 => ?_))
  obtain ⟨tb, mb, al, bs, sp, sc, lal, nal, rfl, hS, hJ⟩ := h6
  have hcap := (hS.own 2 rfl).2.1
  replace hS : Stars (_ :: _ :: _ :: _ :: _ :: []) _ := hS.top 4 rfl
  replace hS : Stars (_ :: _ :: _ :: _ :: _ :: []) _ := hS.top 4 rfl
  replace hS : Stars (_ :: _ :: _ :: _ :: _ :: []) _ := hS.top 4 rfl
  obtain ⟨ρ, hρ, hS'⟩ := (hS.fold 3).fix
  replace hS := hS'
  replace hρ : Stars [_, _, _] ρ := hρ
  have hsr := hρ.ro 2 rfl
  have hT1 : TraceIs ρ p es := hT.up hsr
  have hA : StaysIs ρ es p sp bs (through es).stays := ⟨(hρ.own 0 rfl).rd, fun i b s hb hi => by obtain ⟨gp, gc, up, uc, h1, h2, _⟩ := stays_at hρ (k := 1) rfl hb hi; exact ⟨gp, gc, up, uc, h1, h2⟩, hJ.len, hJ.wf, by have := hJ.few.1; omega, fun s hs => by have := (hJ.few.2 s hs).1; omega⟩
  have hbad := hJ.bad
  replace hS : Stars (_ :: _ :: _ :: []) _ := hS.top 2 rfl
  replace hS : Stars (_ :: _ :: _ :: []) _ := hS.top 2 rfl
  refine Reg.q rfl rfl rfl (q_assign rfl) ?_
  refine Reg.done ?_
  refine St.keep [2, 0, 3] ?_
  show St _ _ _ [(3, _), (2, _), (0, _)] _ _ _
  refine St.seq ?_
  refine St.region rfl ?_
  refine Reg.q rfl rfl rfl (q_move rfl) ?_
  refine Reg.x rfl rfl rfl (e_callF rfl rfl rfl ca_19 ((jbehind_spec _ ρ [] es p c hT1 hes tb mb _ _ _ _ hbad hS).mono fun v8 τ8 h8 => ?_))
  obtain ⟨al2, hS, hbad⟩ := h8
  refine Reg.done ?_
  refine St.keep [3, 2, 0] ?_
  show St _ _ _ [(3, _), (2, _), (0, _)] _ _ _
  refine St.seq ?_
  refine St.region rfl ?_
  refine Reg.q rfl rfl rfl (q_move rfl) ?_
  refine Reg.x rfl rfl rfl (e_callF rfl rfl rfl ca_20 ((jonce_spec _ ρ [] es p sp c sc hT1 hes bs (through es).stays hA tb mb _ _ _ hbad hS).mono fun v10 τ10 h10 => ?_))
  obtain ⟨al3, hS, hbad⟩ := h10
  refine Reg.done ?_
  refine St.keep [3, 2, 0] ?_
  show St _ _ _ [(3, _), (2, _), (0, _)] _ _ _
  refine St.seq ?_
  refine St.region rfl ?_
  refine Reg.q rfl rfl rfl (q_move rfl) ?_
  refine Reg.x rfl rfl rfl (e_callF rfl rfl rfl ca_21 ((jtogether_spec _ ρ [] es p sp c sc hT1 hes bs (through es).stays hA tb mb _ _ _ hbad hS hcap).mono fun v12 τ12 h12 => ?_))
  obtain ⟨al4, hS, hbad⟩ := h12
  replace hbad : BadIs al4 (judged es) := hbad
  refine Reg.done ?_
  refine St.keep [3, 2, 0] ?_
  show St _ _ _ [(3, _), (2, _), (0, _)] _ _ _
  refine St.seq ?_
  refine St.seq ?_
  refine St.region rfl ?_
  refine Reg.q rfl rfl rfl (q_assign rfl) ?_
  refine Reg.done ?_
  refine St.keep [3, 2, 0, 4] ?_
  show St _ _ _ [(4, _), (3, _), (2, _), (0, _)] _ _ _
  refine St.block ?_
  refine St.loopw (Y := Nat) (fun y => [(4, .int .i64 (y : Nat))]) [3, 2, 0] (fun r τ => Stars (pt tb (.cells (traceC p es.length c sp (through es).stays.length sc mb (through es).named) 70 (0, 0)) :: mapA encI mb al4 :: ro ρ :: []) τ ∧ 1 ≤ r ∧ r ≤ 7 ∧ ∀ q : Nat, 1 ≤ q → q < r → judged es q = false) (fun r => 7 - r) (1) rfl (⟨hS, by omega, by omega, fun q _ _ => by omega⟩) ?_
  intro r τ ⟨hS, h1, h7, hq⟩ back
  show St _ _ _ [(4, _), (3, _), (2, _), (0, _)] _ _ _
  refine St.seq ?_
  refine St.seq ?_
  refine St.region rfl ?_
  refine Reg.q rfl rfl rfl (q_move rfl) ?_
  refine Reg.q rfl rfl rfl (q_le rfl rfl) ?_
  refine Reg.done ?_
  refine St.keep [4, 3, 2, 0, 14] ?_
  show St _ _ _ [(14, _), (4, _), (3, _), (2, _), (0, _)] _ _ _
  refine St.cond rfl (fun hc0 => ?_) (fun hc0 => ?_)
  · simp at hc0
    refine St.skip ?_
    refine St.seq ?_
    refine St.block ?_
    refine St.seq ?_
    refine St.region rfl ?_
    refine Reg.q rfl rfl rfl (q_move rfl) ?_
    refine Reg.q rfl rfl rfl (q_nil rfl) ?_
    refine Reg.q rfl rfl rfl (q_fieldAddr fo_70_2 rfl rfl) ?_
    refine Reg.q rfl rfl rfl (q_load1 ac_50 rfl (hS.pt 0 rfl) rfl) ?_
    refine Reg.q rfl rfl rfl (q_move rfl) ?_
    refine Reg.q rfl rfl rfl (q_lookup Try.underlying50 key_3 zv_4 rfl rfl (hS.map 1 rfl) (hbad r)) ?_
    refine Reg.done ?_
    refine St.keep [14, 4, 3, 2, 0, 22] ?_
    show St _ _ _ [(22, _), (14, _), (4, _), (3, _), (2, _), (0, _)] _ _ _
    refine St.cond rfl (fun hc1 => ?_) (fun hc1 => ?_)
    · skip
      refine St.seq ?_
      refine St.region rfl ?_
      refine Reg.q rfl rfl rfl (q_move rfl) ?_
      refine Reg.q rfl rfl rfl (q_assign rfl) ?_
      refine Reg.done ?_
      refine St.keep [22, 14, 4, 3, 2, 0] ?_
      show St _ _ _ [(2, _), (22, _), (14, _), (4, _), (3, _), (2, _), (0, _)] _ _ _
      refine St.ret Try.func10 (.tmp rfl .nil) (hsr.trans (hS.ro 2 rfl)) ?_
      exact ⟨by rw [evsOf, least_at hc1 h1 (by omega) hq]; rfl, rfl⟩
    · skip
      refine St.skip ?_
      refine St.inBlock ?_
      refine St.region rfl ?_
      refine Reg.q rfl rfl rfl (q_move rfl) ?_
      refine Reg.q rfl rfl rfl (q_add rfl rfl (inc64 (by omega))) ?_
      refine Reg.q rfl rfl rfl (q_assign rfl) ?_
      refine Reg.done ?_
      refine St.keep [22, 14, 4, 3, 2, 0] ?_
      show St _ _ _ [(4, _), (22, _), (14, _), (4, _), (3, _), (2, _), (0, _)] _ _ _
      refine St.conv (SubL.list (by rfl)) (Sub.rfl' _) (back (r + 1) _ ?_ ?_)
      · exact ⟨hS, by omega, by omega, fun q a b => by
          by_cases e : q = r
          · subst e; exact hc1
          · exact hq q a (by omega)⟩
      · omega
  · simp at hc0
    obtain rfl : r = 7 := by omega
    refine St.exit rfl ?_
    refine St.seq ?_
    refine St.region rfl ?_
    refine Reg.q rfl rfl rfl (q_assign rfl) ?_
    refine Reg.done ?_
    refine St.keep [14, 4, 3, 2, 0] ?_
    show St _ _ _ [(2, _), (14, _), (4, _), (3, _), (2, _), (0, _)] _ _ _
    refine St.ret Try.func10 (.tmp rfl .nil) (hsr.trans (hS.ro 2 rfl)) ?_
    exact ⟨by rw [evsOf, least_none hq]; rfl, rfl⟩
end Go.Proofs.Ytdgdbnkhmdncdaa
