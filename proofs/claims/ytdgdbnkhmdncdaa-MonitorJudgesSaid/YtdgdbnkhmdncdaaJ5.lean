/- The judge: a trace is gone through. -/
import Derived.Test.YtdgdbnkhmdncdaaJ2
import Derived.Test.YtdgdbnkhmdncdaaJ3
import Derived.Test.YtdgdbnkhmdncdaaJ4
set_option linter.unusedSectionVars false
set_option linter.unusedSimpArgs false
set_option linter.unusedVariables false
namespace Go.Proofs.Ytdgdbnkhmdncdaa
open Go.Gw Go.Cs
variable [Env]
set_option maxHeartbeats 4000000
namespace FJ5
theorem ac_3 : aggCells Try.prog 3 = some none := by kernel_rfl
theorem ca_31 : callable Try.prog 31 = true := by kernel_rfl
theorem ca_32 : callable Try.prog 32 = true := by kernel_rfl
theorem ca_33 : callable Try.prog 33 = true := by kernel_rfl
theorem ca_48 : callable Try.prog 48 = true := by kernel_rfl
theorem fo_101_10 : fieldOff Try.prog 101 10 = some 11 := by kernel_rfl
theorem fo_101_6 : fieldOff Try.prog 101 6 = some 7 := by kernel_rfl
theorem fo_101_7 : fieldOff Try.prog 101 7 = some 8 := by kernel_rfl
theorem fo_101_8 : fieldOff Try.prog 101 8 = some 9 := by kernel_rfl
theorem fo_39_0 : fieldOff Try.prog 39 0 = some 0 := by kernel_rfl
theorem fo_39_1 : fieldOff Try.prog 39 1 = some 1 := by kernel_rfl
theorem pl_70 : places Try.prog 70 = some #[(0, 1), (1, 1), (2, 1), (3, 1)] := by kernel_rfl
theorem se_22 : sliceElem Try.prog 22 = some 19 := by kernel_rfl
theorem sz_3 : szOf Try.prog 3 = some 1 := by kernel_rfl
theorem sz_4 : szOf Try.prog 4 = some 1 := by kernel_rfl
theorem sz_63 : szOf Try.prog 63 = some 1 := by kernel_rfl
theorem zo_70 : zeroOf Try.prog 70 = some #[.slice none 0 0, .slice none 0 0, .map none, .int .i64 0] := by kernel_rfl
theorem zv_4 : zeroV Try.prog 4 = some (.bool false) := by kernel_rfl
theorem zv_90 : zeroV Try.prog 90 = some (.pointer none) := by kernel_rfl
end FJ5
open FJ5

theorem jupp_none (i : Nat) (σ ρ : Heap) (rs : List Asr) (es : List Ev) (p : Option Addr) (hT : TraceIs ρ p es) (hes : es.length ≤ 100000) (tb : Nat) (v0 v1 v2 : Value) (bs : List Nat) (J : JTr) (al lal nal : List (Int × Value)) (hJ : JIs es bs J al lal nal i) (hS : Stars (pt tb (.cells #[v0, v1, v2, .int .i64 J.named] 70 (0, 0)) :: staysA p bs J.stays :: ro ρ :: rs) σ) (e : Ev) (hi : es[i]? = some e) (hn : J.now e.proc = none) : Does Try.prog 33 #[.pointer (some ⟨tb, 0, none⟩), .int .i64 (i : Nat), evp p (some (i, e)), .pointer none] σ (fun v τ => Stars (pt tb (.cells #[v0, v1, v2, .int .i64 (J.upp i e).named] 70 (0, 0)) :: staysA p bs (J.upp i e).stays :: ro ρ :: rs) τ ∧ JIs es bs (J.upp i e) al lal nal (i + 1)) := by
  refine Does.enter (n := 40) (l := [(0, _), (1, _), (2, _), (3, _)]) Try.func33 rfl rfl (by simp) rfl ?_
  have hT0 := hT
  obtain ⟨lb, lo, cs, TT, fz, rfl, hb, hlt, hr⟩ := hT.row hi
  refine St.seq ?_
  refine St.region rfl ?_
  refine Reg.q rfl rfl rfl (q_move rfl) ?_
  refine Reg.q rfl rfl rfl (q_nil rfl) ?_
  refine Reg.q rfl rfl rfl (q_fieldAddr fo_39_0 rfl rfl) ?_
  refine Reg.q rfl rfl rfl (q_load1 ac_3 rfl (hS.ro 2 rfl _ _ hb) (row_cell hr 0 rfl)) ?_
  refine Reg.done ?_
  refine St.keep [0, 1, 2, 3, 11] ?_
  show St _ _ _ [(11, _), (0, _), (1, _), (2, _), (3, _)] _ _ _
  refine St.block ?_
  refine St.seq ?_
  refine St.region rfl ?_
  refine Reg.q rfl rfl rfl (q_ieq rfl rfl) ?_
  refine Reg.q rfl rfl rfl (q_assign rfl) ?_
  refine Reg.done ?_
  refine St.keep [11, 0, 1, 2, 3, 12] ?_
  show St _ _ _ [(12, _), (11, _), (0, _), (1, _), (2, _), (3, _)] _ _ _
  refine St.cond rfl (fun hc0 => ?_) (fun hc0 => ?_)
  · skip
    refine St.seq ?_
    refine St.region rfl ?_
    refine Reg.q rfl rfl rfl (q_move rfl) ?_
    refine Reg.q rfl rfl rfl (QOp.eq (v' := .bool false) (q_pnen Try.underlying90 rfl rfl) rfl) ?_
    refine Reg.done ?_
    refine St.keep [12, 11, 0, 1, 2, 3, 15] ?_
    show St _ _ _ [(15, _), (12, _), (11, _), (0, _), (1, _), (2, _), (3, _)] _ _ _
    refine St.condF rfl ?_
    refine St.skip ?_
    refine St.inBlock ?_
    refine St.fin Try.func33 .nil (Sub.rfl' _) ?_
    rw [upp_view_none hn (by simpa using hc0)]
    exact ⟨hS, hJ.more⟩
  · skip
    refine St.seq ?_
    refine St.seq ?_
    refine St.region rfl ?_
    refine Reg.q rfl rfl rfl (q_ieq rfl rfl) ?_
    refine Reg.q rfl rfl rfl (q_assign rfl) ?_
    refine Reg.done ?_
    refine St.keep [12, 11, 0, 1, 2, 3, 30] ?_
    show St _ _ _ [(30, _), (12, _), (11, _), (0, _), (1, _), (2, _), (3, _)] _ _ _
    refine St.cond rfl (fun hc2 => ?_) (fun hc2 => ?_)
    · skip
      refine St.skip ?_
      refine St.cond rfl (fun hc6 => ?_) (fun hc6 => ?_)
      · skip
        refine St.region rfl ?_
        refine Reg.q rfl rfl rfl (q_move rfl) ?_
        refine Reg.q rfl rfl rfl (q_move rfl) ?_
        refine Reg.q rfl rfl rfl (q_move rfl) ?_
        refine Reg.x rfl rfl rfl (e_callF rfl rfl rfl ca_48 ((jmine_none i σ ρ rs es _ hT hes tb v0 v1 v2 bs J al lal nal hJ hS e hi hn).mono fun v39 τ39 h39 => ?_))
        skip
        refine Reg.done ?_
        refine St.keep [30, 12, 11, 0, 1, 2, 3] ?_
        show St _ _ _ [(30, _), (12, _), (11, _), (0, _), (1, _), (2, _), (3, _)] _ _ _
        refine St.inBlock ?_
        refine St.fin Try.func33 .nil (Sub.rfl' _) ?_
        have h7 : ¬ e.kind = 7 := by simpa using hc0
        have hk : e.kind = 11 := by simpa using hc2
        rw [upp_mine h7 (by omega)]
        exact h39
      · exact absurd (hc2.symm.trans hc6) (by decide) -- PRUNE
    · skip
      refine St.seq ?_
      refine St.region rfl ?_
      refine Reg.q rfl rfl rfl (q_ieq rfl rfl) ?_
      refine Reg.q rfl rfl rfl (q_assign rfl) ?_
      refine Reg.done ?_
      refine St.keep [30, 12, 11, 0, 1, 2, 3] ?_
      show St _ _ _ [(30, _), (30, _), (12, _), (11, _), (0, _), (1, _), (2, _), (3, _)] _ _ _
      refine St.cond rfl (fun hc3 => ?_) (fun hc3 => ?_)
      · skip
        refine St.skip ?_
        refine St.cond rfl (fun hc6 => ?_) (fun hc6 => ?_)
        · skip
          refine St.region rfl ?_
          refine Reg.q rfl rfl rfl (q_move rfl) ?_
          refine Reg.q rfl rfl rfl (q_move rfl) ?_
          refine Reg.q rfl rfl rfl (q_move rfl) ?_
          refine Reg.x rfl rfl rfl (e_callF rfl rfl rfl ca_48 ((jmine_none i σ ρ rs es _ hT hes tb v0 v1 v2 bs J al lal nal hJ hS e hi hn).mono fun v39 τ39 h39 => ?_))
          skip
          refine Reg.done ?_
          refine St.keep [30, 30, 12, 11, 0, 1, 2, 3] ?_
          show St _ _ _ [(30, _), (30, _), (12, _), (11, _), (0, _), (1, _), (2, _), (3, _)] _ _ _
          refine St.inBlock ?_
          refine St.fin Try.func33 .nil (Sub.rfl' _) ?_
          have h7 : ¬ e.kind = 7 := by simpa using hc0
          have hk : e.kind = 8 := by simpa using hc3
          rw [upp_mine h7 (by omega)]
          exact h39
        · exact absurd (hc3.symm.trans hc6) (by decide) -- PRUNE
      · skip
        refine St.seq ?_
        refine St.region rfl ?_
        refine Reg.q rfl rfl rfl (q_ieq rfl rfl) ?_
        refine Reg.q rfl rfl rfl (q_assign rfl) ?_
        refine Reg.done ?_
        refine St.keep [30, 30, 12, 11, 0, 1, 2, 3] ?_
        show St _ _ _ [(30, _), (30, _), (30, _), (12, _), (11, _), (0, _), (1, _), (2, _), (3, _)] _ _ _
        refine St.cond rfl (fun hc4 => ?_) (fun hc4 => ?_)
        · skip
          refine St.skip ?_
          refine St.cond rfl (fun hc6 => ?_) (fun hc6 => ?_)
          · skip
            refine St.region rfl ?_
            refine Reg.q rfl rfl rfl (q_move rfl) ?_
            refine Reg.q rfl rfl rfl (q_move rfl) ?_
            refine Reg.q rfl rfl rfl (q_move rfl) ?_
            refine Reg.x rfl rfl rfl (e_callF rfl rfl rfl ca_48 ((jmine_none i σ ρ rs es _ hT hes tb v0 v1 v2 bs J al lal nal hJ hS e hi hn).mono fun v39 τ39 h39 => ?_))
            skip
            refine Reg.done ?_
            refine St.keep [30, 30, 30, 12, 11, 0, 1, 2, 3] ?_
            show St _ _ _ [(30, _), (30, _), (30, _), (12, _), (11, _), (0, _), (1, _), (2, _), (3, _)] _ _ _
            refine St.inBlock ?_
            refine St.fin Try.func33 .nil (Sub.rfl' _) ?_
            have h7 : ¬ e.kind = 7 := by simpa using hc0
            have hk : e.kind = 9 := by simpa using hc4
            rw [upp_mine h7 (by omega)]
            exact h39
          · exact absurd (hc4.symm.trans hc6) (by decide) -- PRUNE
        · skip
          refine St.seq ?_
          refine St.region rfl ?_
          refine Reg.q rfl rfl rfl (q_ieq rfl rfl) ?_
          refine Reg.q rfl rfl rfl (q_assign rfl) ?_
          refine Reg.done ?_
          refine St.keep [30, 30, 30, 12, 11, 0, 1, 2, 3] ?_
          show St _ _ _ [(30, _), (30, _), (30, _), (30, _), (12, _), (11, _), (0, _), (1, _), (2, _), (3, _)] _ _ _
          refine St.cond rfl (fun hc5 => ?_) (fun hc5 => ?_)
          · skip
            refine St.skip ?_
            refine St.cond rfl (fun hc6 => ?_) (fun hc6 => ?_)
            · skip
              refine St.region rfl ?_
              refine Reg.q rfl rfl rfl (q_move rfl) ?_
              refine Reg.q rfl rfl rfl (q_move rfl) ?_
              refine Reg.q rfl rfl rfl (q_move rfl) ?_
              refine Reg.x rfl rfl rfl (e_callF rfl rfl rfl ca_48 ((jmine_none i σ ρ rs es _ hT hes tb v0 v1 v2 bs J al lal nal hJ hS e hi hn).mono fun v39 τ39 h39 => ?_))
              skip
              refine Reg.done ?_
              refine St.keep [30, 30, 30, 30, 12, 11, 0, 1, 2, 3] ?_
              show St _ _ _ [(30, _), (30, _), (30, _), (30, _), (12, _), (11, _), (0, _), (1, _), (2, _), (3, _)] _ _ _
              refine St.inBlock ?_
              refine St.fin Try.func33 .nil (Sub.rfl' _) ?_
              have h7 : ¬ e.kind = 7 := by simpa using hc0
              have hk : e.kind = 10 := by simpa using hc5
              rw [upp_mine h7 (by omega)]
              exact h39
            · exact absurd (hc5.symm.trans hc6) (by decide) -- PRUNE
          · skip
            refine St.region rfl ?_
            refine Reg.q rfl rfl rfl (q_ieq rfl rfl) ?_
            refine Reg.q rfl rfl rfl (q_assign rfl) ?_
            refine Reg.done ?_
            refine St.keep [30, 30, 30, 30, 12, 11, 0, 1, 2, 3] ?_
            show St _ _ _ [(30, _), (30, _), (30, _), (30, _), (30, _), (12, _), (11, _), (0, _), (1, _), (2, _), (3, _)] _ _ _
            refine St.cond rfl (fun hc6 => ?_) (fun hc6 => ?_)
            · skip
              refine St.region rfl ?_
              refine Reg.q rfl rfl rfl (q_move rfl) ?_
              refine Reg.q rfl rfl rfl (q_move rfl) ?_
              refine Reg.q rfl rfl rfl (q_move rfl) ?_
              refine Reg.x rfl rfl rfl (e_callF rfl rfl rfl ca_48 ((jmine_none i σ ρ rs es _ hT hes tb v0 v1 v2 bs J al lal nal hJ hS e hi hn).mono fun v39 τ39 h39 => ?_))
              skip
              refine Reg.done ?_
              refine St.keep [30, 30, 30, 30, 30, 12, 11, 0, 1, 2, 3] ?_
              show St _ _ _ [(30, _), (30, _), (30, _), (30, _), (30, _), (12, _), (11, _), (0, _), (1, _), (2, _), (3, _)] _ _ _
              refine St.inBlock ?_
              refine St.fin Try.func33 .nil (Sub.rfl' _) ?_
              have h7 : ¬ e.kind = 7 := by simpa using hc0
              have hk : e.kind = 12 := by simpa using hc6
              rw [upp_mine h7 (by omega)]
              exact h39
            · skip
              refine St.skip ?_
              refine St.inBlock ?_
              refine St.fin Try.func33 .nil (Sub.rfl' _) ?_
              have h7 : ¬ e.kind = 7 := by simpa using hc0
              have k11 : ¬ e.kind = 11 := by simpa using hc2
              have k8 : ¬ e.kind = 8 := by simpa using hc3
              have k9 : ¬ e.kind = 9 := by simpa using hc4
              have k10 : ¬ e.kind = 10 := by simpa using hc5
              have k12 : ¬ e.kind = 12 := by simpa using hc6
              rw [upp_not h7 (by omega)]
              exact ⟨hS, hJ.more⟩

theorem jupp_some (i : Nat) (σ ρ : Heap) (rs : List Asr) (es : List Ev) (p : Option Addr) (hT : TraceIs ρ p es) (hes : es.length ≤ 100000) (tb : Nat) (v0 v1 v2 : Value) (bs : List Nat) (J : JTr) (al lal nal : List (Int × Value)) (hJ : JIs es bs J al lal nal i) (hS : Stars (pt tb (.cells #[v0, v1, v2, .int .i64 J.named] 70 (0, 0)) :: staysA p bs J.stays :: ro ρ :: rs) σ) (e : Ev) (hi : es[i]? = some e) (k bk : Nat) (s : JSt) (hn : J.now e.proc = some k) (hbk : bs[k]? = some bk) (hs : J.stays[k]? = some s) : Does Try.prog 33 #[.pointer (some ⟨tb, 0, none⟩), .int .i64 (i : Nat), evp p (some (i, e)), .pointer (some ⟨bk, 0, none⟩)] σ (fun v τ => Stars (pt tb (.cells #[v0, v1, v2, .int .i64 (J.upp i e).named] 70 (0, 0)) :: staysA p bs (J.upp i e).stays :: ro ρ :: rs) τ ∧ JIs es bs (J.upp i e) al lal nal (i + 1)) := by
  refine Does.enter (n := 40) (l := [(0, _), (1, _), (2, _), (3, _)]) Try.func33 rfl rfl (by simp) rfl ?_
  obtain ⟨lb, lo, cs, TT, fz, rfl, hb, hlt, hr⟩ := hT.row hi
  have hklt : k < J.stays.length := (List.getElem?_eq_some_iff.1 hs).1
  have hwf := hJ.wf s (List.mem_of_getElem? hs)
  have hfew := hJ.few.2 s (List.mem_of_getElem? hs)
  refine St.seq ?_
  refine St.region rfl ?_
  refine Reg.q rfl rfl rfl (q_move rfl) ?_
  refine Reg.q rfl rfl rfl (q_nil rfl) ?_
  refine Reg.q rfl rfl rfl (q_fieldAddr fo_39_0 rfl rfl) ?_
  refine Reg.q rfl rfl rfl (q_load1 ac_3 rfl (hS.ro 2 rfl _ _ hb) (row_cell hr 0 rfl)) ?_
  refine Reg.done ?_
  refine St.keep [0, 1, 2, 3, 11] ?_
  show St _ _ _ [(11, _), (0, _), (1, _), (2, _), (3, _)] _ _ _
  refine St.block ?_
  refine St.seq ?_
  refine St.region rfl ?_
  refine Reg.q rfl rfl rfl (q_ieq rfl rfl) ?_
  refine Reg.q rfl rfl rfl (q_assign rfl) ?_
  refine Reg.done ?_
  refine St.keep [11, 0, 1, 2, 3, 12] ?_
  show St _ _ _ [(12, _), (11, _), (0, _), (1, _), (2, _), (3, _)] _ _ _
  refine St.cond rfl (fun hc0 => ?_) (fun hc0 => ?_)
  · obtain ⟨s0, s1, s2, s3, s4, s5, s6, s7, s8, s9, s10, s11⟩ := s
    change s3.length ≤ i ∧ s9.length ≤ i at hfew
    replace hS : Stars (_ :: _ :: _ :: rs) _ := hS.top 1 rfl
    obtain ⟨gp, gc, up, uc, hS'⟩ := stays_open hS hbk hs
    simp only [stayC] at hS'
    replace hS := hS'
    refine St.seq ?_
    refine St.region rfl ?_
    refine Reg.q rfl rfl rfl (q_move rfl) ?_
    refine Reg.q rfl rfl rfl (QOp.eq (v' := .bool true) (q_pnen Try.underlying90 rfl rfl) rfl) ?_
    refine Reg.done ?_
    refine St.keep [12, 11, 0, 1, 2, 3, 15] ?_
    show St _ _ _ [(15, _), (12, _), (11, _), (0, _), (1, _), (2, _), (3, _)] _ _ _
    refine St.condT rfl ?_
    refine St.region rfl ?_
    refine Reg.q rfl rfl rfl (q_move rfl) ?_
    refine Reg.q rfl rfl rfl (q_move rfl) ?_
    refine Reg.q rfl rfl rfl (q_move rfl) ?_
    refine Reg.q rfl rfl rfl (q_move rfl) ?_
    refine Reg.q rfl rfl rfl (q_move rfl) ?_
    refine Reg.q rfl rfl rfl (q_move rfl) ?_
    refine Reg.q rfl rfl rfl (q_nil rfl) ?_
    refine Reg.q rfl rfl rfl (q_fieldAddr fo_101_6 rfl rfl) ?_
    refine Reg.no rfl rfl (e_store rfl rfl sz_63 rfl (hS.pt 0 rfl) (Nat.le_of_ble_eq_true rfl) rfl (storeN_row rfl) (fun τs3_8 hs3_8 hu3_8 => ?_))
    replace hS : Stars (_ :: _ :: _ :: _ :: _ :: _ :: rs) _ := (hS.top 0 rfl).ptU hu3_8 hs3_8
    refine Reg.q rfl rfl rfl (q_nil rfl) ?_
    refine Reg.q rfl rfl rfl (q_fieldAddr fo_101_7 rfl rfl) ?_
    refine Reg.no rfl rfl (e_store rfl rfl sz_3 rfl (hS.pt 0 rfl) (Nat.le_of_ble_eq_true rfl) rfl (storeN_row rfl) (fun τs3_11 hs3_11 hu3_11 => ?_))
    replace hS : Stars (_ :: _ :: _ :: _ :: _ :: _ :: rs) _ := (hS.top 0 rfl).ptU hu3_11 hs3_11
    refine Reg.q rfl rfl rfl (q_nil rfl) ?_
    refine Reg.q rfl rfl rfl (q_fieldAddr fo_101_8 rfl rfl) ?_
    refine Reg.no rfl rfl (e_store rfl rfl sz_63 rfl (hS.pt 0 rfl) (Nat.le_of_ble_eq_true rfl) rfl (storeN_row rfl) (fun τs3_14 hs3_14 hu3_14 => ?_))
    replace hS : Stars (_ :: _ :: _ :: _ :: _ :: _ :: rs) _ := (hS.top 0 rfl).ptU hu3_14 hs3_14
    refine Reg.q rfl rfl rfl (q_nil rfl) ?_
    refine Reg.q rfl rfl rfl (q_fieldAddr fo_101_10 rfl rfl) ?_
    refine Reg.no rfl rfl (e_store rfl rfl sz_4 rfl (hS.pt 0 rfl) (Nat.le_of_ble_eq_true rfl) rfl (storeN_row rfl) (fun τs3_17 hs3_17 hu3_17 => ?_))
    replace hS : Stars (_ :: _ :: _ :: _ :: _ :: _ :: rs) _ := (hS.top 0 rfl).ptU hu3_17 hs3_17
    refine Reg.done ?_
    refine St.keep [15, 12, 11, 0, 1, 2, 3] ?_
    show St _ _ _ [(15, _), (12, _), (11, _), (0, _), (1, _), (2, _), (3, _)] _ _ _
    refine St.inBlock ?_
    refine St.fin Try.func33 .nil (Sub.rfl' _) ?_
    replace hS := stays_close (s := ⟨s0, s1, s2, s3, s4, s5, some (i, e), (i : Nat), none, s9, false, s11⟩) hS hbk hklt
    replace hS : Stars (_ :: _ :: _ :: rs) _ := hS.top 2 rfl
    replace hS : Stars (_ :: _ :: _ :: rs) _ := hS.top 1 rfl
    replace hS : Stars (_ :: _ :: _ :: rs) _ := hS.top 2 rfl
    rw [upp_view_some hn (by simpa using hc0)]
    refine ⟨?_, hJ.mod fun s' hs' => ?_⟩
    · rw [mod_some hs]; exact hS
    · have := Option.some.inj (hs'.symm.trans hs)
      subst this
      exact ⟨⟨hwf.trans, hwf.next, fun j x hj => by simp only [Option.some.injEq, Prod.mk.injEq] at hj; obtain ⟨rfl, rfl⟩ := hj; exact hi, fun j x hj => (by cases hj), hwf.gots, hwf.ups, hwf.before, hwf.tr⟩, by simp only []; omega, by simp only []; omega⟩
  · skip
    refine St.seq ?_
    refine St.seq ?_
    refine St.region rfl ?_
    refine Reg.q rfl rfl rfl (q_ieq rfl rfl) ?_
    refine Reg.q rfl rfl rfl (q_assign rfl) ?_
    refine Reg.done ?_
    refine St.keep [12, 11, 0, 1, 2, 3, 30] ?_
    show St _ _ _ [(30, _), (12, _), (11, _), (0, _), (1, _), (2, _), (3, _)] _ _ _
    refine St.cond rfl (fun hc2 => ?_) (fun hc2 => ?_)
    · skip
      refine St.skip ?_
      refine St.cond rfl (fun hc6 => ?_) (fun hc6 => ?_)
      · skip
        refine St.region rfl ?_
        refine Reg.q rfl rfl rfl (q_move rfl) ?_
        refine Reg.q rfl rfl rfl (q_move rfl) ?_
        refine Reg.q rfl rfl rfl (q_move rfl) ?_
        refine Reg.x rfl rfl rfl (e_callF rfl rfl rfl ca_48 ((jmine_some i σ ρ rs es _ hT hes tb v0 v1 v2 bs J al lal nal hJ hS e hi k bk s hn hbk hs).mono fun v39 τ39 h39 => ?_))
        skip
        refine Reg.done ?_
        refine St.keep [30, 12, 11, 0, 1, 2, 3] ?_
        show St _ _ _ [(30, _), (12, _), (11, _), (0, _), (1, _), (2, _), (3, _)] _ _ _
        refine St.inBlock ?_
        refine St.fin Try.func33 .nil (Sub.rfl' _) ?_
        have h7 : ¬ e.kind = 7 := by simpa using hc0
        have hk : e.kind = 11 := by simpa using hc2
        rw [upp_mine h7 (by omega)]
        exact h39
      · exact absurd (hc2.symm.trans hc6) (by decide) -- PRUNE
    · skip
      refine St.seq ?_
      refine St.region rfl ?_
      refine Reg.q rfl rfl rfl (q_ieq rfl rfl) ?_
      refine Reg.q rfl rfl rfl (q_assign rfl) ?_
      refine Reg.done ?_
      refine St.keep [30, 12, 11, 0, 1, 2, 3] ?_
      show St _ _ _ [(30, _), (30, _), (12, _), (11, _), (0, _), (1, _), (2, _), (3, _)] _ _ _
      refine St.cond rfl (fun hc3 => ?_) (fun hc3 => ?_)
      · skip
        refine St.skip ?_
        refine St.cond rfl (fun hc6 => ?_) (fun hc6 => ?_)
        · skip
          refine St.region rfl ?_
          refine Reg.q rfl rfl rfl (q_move rfl) ?_
          refine Reg.q rfl rfl rfl (q_move rfl) ?_
          refine Reg.q rfl rfl rfl (q_move rfl) ?_
          refine Reg.x rfl rfl rfl (e_callF rfl rfl rfl ca_48 ((jmine_some i σ ρ rs es _ hT hes tb v0 v1 v2 bs J al lal nal hJ hS e hi k bk s hn hbk hs).mono fun v39 τ39 h39 => ?_))
          skip
          refine Reg.done ?_
          refine St.keep [30, 30, 12, 11, 0, 1, 2, 3] ?_
          show St _ _ _ [(30, _), (30, _), (12, _), (11, _), (0, _), (1, _), (2, _), (3, _)] _ _ _
          refine St.inBlock ?_
          refine St.fin Try.func33 .nil (Sub.rfl' _) ?_
          have h7 : ¬ e.kind = 7 := by simpa using hc0
          have hk : e.kind = 8 := by simpa using hc3
          rw [upp_mine h7 (by omega)]
          exact h39
        · exact absurd (hc3.symm.trans hc6) (by decide) -- PRUNE
      · skip
        refine St.seq ?_
        refine St.region rfl ?_
        refine Reg.q rfl rfl rfl (q_ieq rfl rfl) ?_
        refine Reg.q rfl rfl rfl (q_assign rfl) ?_
        refine Reg.done ?_
        refine St.keep [30, 30, 12, 11, 0, 1, 2, 3] ?_
        show St _ _ _ [(30, _), (30, _), (30, _), (12, _), (11, _), (0, _), (1, _), (2, _), (3, _)] _ _ _
        refine St.cond rfl (fun hc4 => ?_) (fun hc4 => ?_)
        · skip
          refine St.skip ?_
          refine St.cond rfl (fun hc6 => ?_) (fun hc6 => ?_)
          · skip
            refine St.region rfl ?_
            refine Reg.q rfl rfl rfl (q_move rfl) ?_
            refine Reg.q rfl rfl rfl (q_move rfl) ?_
            refine Reg.q rfl rfl rfl (q_move rfl) ?_
            refine Reg.x rfl rfl rfl (e_callF rfl rfl rfl ca_48 ((jmine_some i σ ρ rs es _ hT hes tb v0 v1 v2 bs J al lal nal hJ hS e hi k bk s hn hbk hs).mono fun v39 τ39 h39 => ?_))
            skip
            refine Reg.done ?_
            refine St.keep [30, 30, 30, 12, 11, 0, 1, 2, 3] ?_
            show St _ _ _ [(30, _), (30, _), (30, _), (12, _), (11, _), (0, _), (1, _), (2, _), (3, _)] _ _ _
            refine St.inBlock ?_
            refine St.fin Try.func33 .nil (Sub.rfl' _) ?_
            have h7 : ¬ e.kind = 7 := by simpa using hc0
            have hk : e.kind = 9 := by simpa using hc4
            rw [upp_mine h7 (by omega)]
            exact h39
          · exact absurd (hc4.symm.trans hc6) (by decide) -- PRUNE
        · skip
          refine St.seq ?_
          refine St.region rfl ?_
          refine Reg.q rfl rfl rfl (q_ieq rfl rfl) ?_
          refine Reg.q rfl rfl rfl (q_assign rfl) ?_
          refine Reg.done ?_
          refine St.keep [30, 30, 30, 12, 11, 0, 1, 2, 3] ?_
          show St _ _ _ [(30, _), (30, _), (30, _), (30, _), (12, _), (11, _), (0, _), (1, _), (2, _), (3, _)] _ _ _
          refine St.cond rfl (fun hc5 => ?_) (fun hc5 => ?_)
          · skip
            refine St.skip ?_
            refine St.cond rfl (fun hc6 => ?_) (fun hc6 => ?_)
            · skip
              refine St.region rfl ?_
              refine Reg.q rfl rfl rfl (q_move rfl) ?_
              refine Reg.q rfl rfl rfl (q_move rfl) ?_
              refine Reg.q rfl rfl rfl (q_move rfl) ?_
              refine Reg.x rfl rfl rfl (e_callF rfl rfl rfl ca_48 ((jmine_some i σ ρ rs es _ hT hes tb v0 v1 v2 bs J al lal nal hJ hS e hi k bk s hn hbk hs).mono fun v39 τ39 h39 => ?_))
              skip
              refine Reg.done ?_
              refine St.keep [30, 30, 30, 30, 12, 11, 0, 1, 2, 3] ?_
              show St _ _ _ [(30, _), (30, _), (30, _), (30, _), (12, _), (11, _), (0, _), (1, _), (2, _), (3, _)] _ _ _
              refine St.inBlock ?_
              refine St.fin Try.func33 .nil (Sub.rfl' _) ?_
              have h7 : ¬ e.kind = 7 := by simpa using hc0
              have hk : e.kind = 10 := by simpa using hc5
              rw [upp_mine h7 (by omega)]
              exact h39
            · exact absurd (hc5.symm.trans hc6) (by decide) -- PRUNE
          · skip
            refine St.region rfl ?_
            refine Reg.q rfl rfl rfl (q_ieq rfl rfl) ?_
            refine Reg.q rfl rfl rfl (q_assign rfl) ?_
            refine Reg.done ?_
            refine St.keep [30, 30, 30, 30, 12, 11, 0, 1, 2, 3] ?_
            show St _ _ _ [(30, _), (30, _), (30, _), (30, _), (30, _), (12, _), (11, _), (0, _), (1, _), (2, _), (3, _)] _ _ _
            refine St.cond rfl (fun hc6 => ?_) (fun hc6 => ?_)
            · skip
              refine St.region rfl ?_
              refine Reg.q rfl rfl rfl (q_move rfl) ?_
              refine Reg.q rfl rfl rfl (q_move rfl) ?_
              refine Reg.q rfl rfl rfl (q_move rfl) ?_
              refine Reg.x rfl rfl rfl (e_callF rfl rfl rfl ca_48 ((jmine_some i σ ρ rs es _ hT hes tb v0 v1 v2 bs J al lal nal hJ hS e hi k bk s hn hbk hs).mono fun v39 τ39 h39 => ?_))
              skip
              refine Reg.done ?_
              refine St.keep [30, 30, 30, 30, 30, 12, 11, 0, 1, 2, 3] ?_
              show St _ _ _ [(30, _), (30, _), (30, _), (30, _), (30, _), (12, _), (11, _), (0, _), (1, _), (2, _), (3, _)] _ _ _
              refine St.inBlock ?_
              refine St.fin Try.func33 .nil (Sub.rfl' _) ?_
              have h7 : ¬ e.kind = 7 := by simpa using hc0
              have hk : e.kind = 12 := by simpa using hc6
              rw [upp_mine h7 (by omega)]
              exact h39
            · skip
              refine St.skip ?_
              refine St.inBlock ?_
              refine St.fin Try.func33 .nil (Sub.rfl' _) ?_
              have h7 : ¬ e.kind = 7 := by simpa using hc0
              have k11 : ¬ e.kind = 11 := by simpa using hc2
              have k8 : ¬ e.kind = 8 := by simpa using hc3
              have k9 : ¬ e.kind = 9 := by simpa using hc4
              have k10 : ¬ e.kind = 10 := by simpa using hc5
              have k12 : ¬ e.kind = 12 := by simpa using hc6
              rw [upp_not h7 (by omega)]
              exact ⟨hS, hJ.more⟩

theorem jinn_spec (i : Nat) (σ ρ : Heap) (rs : List Asr) (es : List Ev) (p : Option Addr) (hT : TraceIs ρ p es) (hes : es.length ≤ 100000) (tb mb : Nat) (v0 v1 v3 : Value) (bs : List Nat) (J : JTr) (al lal nal : List (Int × Value)) (hJ : JIs es bs J al lal nal i) (hS : Stars (pt tb (.cells #[v0, v1, .map (some mb), v3] 70 (0, 0)) :: mapA encI mb al :: staysA p bs J.stays :: ro ρ :: rs) σ) (e : Ev) (hi : es[i]? = some e) : Does Try.prog 32 #[.pointer (some ⟨tb, 0, none⟩), .int .i64 (i : Nat), evp p (some (i, e)), .bool (J.live e.proc), blk ((J.now e.proc).bind (bs[·]?))] σ (fun v τ => ∃ al', Stars (pt tb (.cells #[v0, v1, .map (some mb), v3] 70 (0, 0)) :: mapA encI mb al' :: staysA p bs (J.inn i e).stays :: ro ρ :: rs) τ ∧ JIs es bs (J.inn i e) al' lal nal (i + 1)) := by
  cases hn : J.now e.proc with
  | none => exact jinn_none i σ ρ rs es p hT hes tb mb v0 v1 v3 bs J al lal nal hJ hS e hi hn
  | some k =>
    obtain ⟨bk, hbk⟩ := hJ.now.some hn
    have hlt : k < J.stays.length := by rw [← hJ.len]; exact (List.getElem?_eq_some_iff.1 hbk).1
    rw [Option.bind_some, hbk]
    exact jinn_some i σ ρ rs es p hT hes tb mb v0 v1 v3 bs J al lal nal hJ hS e hi k bk _ hn hbk (List.getElem?_eq_getElem hlt)
theorem jupp_spec (i : Nat) (σ ρ : Heap) (rs : List Asr) (es : List Ev) (p : Option Addr) (hT : TraceIs ρ p es) (hes : es.length ≤ 100000) (tb : Nat) (v0 v1 v2 : Value) (bs : List Nat) (J : JTr) (al lal nal : List (Int × Value)) (hJ : JIs es bs J al lal nal i) (hS : Stars (pt tb (.cells #[v0, v1, v2, .int .i64 J.named] 70 (0, 0)) :: staysA p bs J.stays :: ro ρ :: rs) σ) (e : Ev) (hi : es[i]? = some e) : Does Try.prog 33 #[.pointer (some ⟨tb, 0, none⟩), .int .i64 (i : Nat), evp p (some (i, e)), blk ((J.now e.proc).bind (bs[·]?))] σ (fun v τ => Stars (pt tb (.cells #[v0, v1, v2, .int .i64 (J.upp i e).named] 70 (0, 0)) :: staysA p bs (J.upp i e).stays :: ro ρ :: rs) τ ∧ JIs es bs (J.upp i e) al lal nal (i + 1)) := by
  cases hn : J.now e.proc with
  | none => exact jupp_none i σ ρ rs es p hT hes tb v0 v1 v2 bs J al lal nal hJ hS e hi hn
  | some k =>
    obtain ⟨bk, hbk⟩ := hJ.now.some hn
    have hlt : k < J.stays.length := by rw [← hJ.len]; exact (List.getElem?_eq_some_iff.1 hbk).1
    rw [Option.bind_some, hbk]
    exact jupp_some i σ ρ rs es p hT hes tb v0 v1 v2 bs J al lal nal hJ hS e hi k bk _ hn hbk (List.getElem?_eq_getElem hlt)

theorem jthrough_spec (σ ρ : Heap) (rs : List Asr) (es : List Ev) (p : Option Addr) (c : Nat) (hT : TraceIs ρ p es) (hes : es.length ≤ 100000) (hS : Stars (ro ρ :: rs) σ) : Does Try.prog 18 #[.slice p es.length c] σ (fun v τ => ∃ tb mb al bs sp sc lal nal, v = .pointer (some ⟨tb, 0, none⟩) ∧ Stars (pt tb (.cells (traceC p es.length c sp (through es).stays.length sc mb (through es).named) 70 (0, 0)) :: mapA encI mb al :: ownA 90 1 sp (through es).stays.length sc (bs.flatMap ptrC) :: staysA p bs (through es).stays :: ro ρ :: rs) τ ∧ JIs es bs (through es) al lal nal es.length) := by
  refine Does.enter (n := 94) (l := [(0, _)]) Try.func18 rfl rfl (by simp) rfl ?_
  refine St.seq ?_
  refine St.region rfl ?_
  refine Reg.q rfl rfl rfl (q_assign rfl) ?_
  refine Reg.done ?_
  refine St.keep [0, 2] ?_
  show St _ _ _ [(2, _), (0, _)] _ _ _
  refine St.seq ?_
  refine St.region rfl ?_
  refine Reg.q rfl rfl rfl (q_move rfl) ?_
  refine Reg.x rfl rfl rfl (e_makeMap (fun b9 τ9 hb9 => ?_))
  replace hS : Stars (_ :: _ :: rs) _ := hS.mapNew (enc := encI) hb9
  refine Reg.q rfl rfl rfl (q_build rfl zo_70 pl_70 (fillN_fill rfl)) ?_
  refine Reg.x rfl rfl rfl (e_box rfl (cellsN_eq rfl) (fun b11 τ11 hb11 => ?_))
  replace hS : Stars (_ :: _ :: _ :: rs) _ := hS.fresh hb11
  refine Reg.q rfl rfl rfl (q_assign rfl) ?_
  refine Reg.done ?_
  refine St.keep [2, 0, 3] ?_
  show St _ _ _ [(3, _), (2, _), (0, _)] _ _ _
  refine St.seq ?_
  refine St.region rfl ?_
  refine Reg.x rfl rfl rfl (e_makeMap (fun b12 τ12 hb12 => ?_))
  replace hS : Stars (_ :: _ :: _ :: _ :: rs) _ := hS.mapNew (enc := encI) hb12
  refine Reg.q rfl rfl rfl (q_assign rfl) ?_
  refine Reg.done ?_
  refine St.keep [3, 2, 0, 4] ?_
  show St _ _ _ [(4, _), (3, _), (2, _), (0, _)] _ _ _
  refine St.seq ?_
  refine St.region rfl ?_
  refine Reg.x rfl rfl rfl (e_makeMap (fun b13 τ13 hb13 => ?_))
  replace hS : Stars (_ :: _ :: _ :: _ :: _ :: rs) _ := hS.mapNew (enc := encI) hb13
  refine Reg.q rfl rfl rfl (q_assign rfl) ?_
  refine Reg.done ?_
  refine St.keep [4, 3, 2, 0, 5] ?_
  show St _ _ _ [(5, _), (4, _), (3, _), (2, _), (0, _)] _ _ _
  refine St.seq ?_
  refine St.seq ?_
  refine St.region rfl ?_
  refine Reg.q rfl rfl rfl (q_move rfl) ?_
  refine Reg.q rfl rfl rfl (q_lenS rfl se_22 rfl) ?_
  refine Reg.q rfl rfl rfl (q_move rfl) ?_
  refine Reg.done ?_
  refine St.keep [5, 4, 3, 2, 0, 15, 16] ?_
  show St _ _ _ [(16, _), (15, _), (5, _), (4, _), (3, _), (2, _), (0, _)] _ _ _
  refine St.block ?_
  replace hS : Stars (ownA 90 1 none 0 0 [] :: staysA p [] [] :: _) _ := hS.nils.ownNil
  replace hS : Stars (_ :: _ :: _ :: _ :: _ :: _ :: _ :: rs) _ := hS.top 6 rfl
  replace hS : Stars (_ :: _ :: _ :: _ :: _ :: _ :: _ :: rs) _ := hS.top 3 rfl
  replace hS : Stars (_ :: _ :: _ :: _ :: _ :: _ :: _ :: rs) _ := hS.top 4 rfl
  replace hS : Stars (_ :: _ :: _ :: _ :: _ :: _ :: _ :: rs) _ := hS.top 4 rfl
  replace hS : Stars (_ :: _ :: _ :: _ :: _ :: _ :: _ :: rs) _ := hS.top 4 rfl
  replace hS : Stars (_ :: _ :: _ :: _ :: _ :: _ :: _ :: rs) _ := hS.top 6 rfl
  replace hS : Stars (_ :: _ :: _ :: _ :: _ :: _ :: _ :: rs) _ := hS.top 6 rfl
  refine St.loopw (Y := Nat × List Nat × List (Int × Value) × List (Int × Value) × List (Int × Value) × Option Addr × Nat) (fun y => [(16, .int .i64 (y.1 : Nat))]) [15, 5, 4, 3, 2, 0] (fun y τ => Stars (pt b11 (.cells (traceC p es.length c y.2.2.2.2.2.1 (through (es.take (y.1))).stays.length y.2.2.2.2.2.2 b9 (through (es.take (y.1))).named) 70 (0, 0)) :: mapA encI b9 y.2.2.1 :: ownA 90 1 y.2.2.2.2.2.1 (through (es.take (y.1))).stays.length y.2.2.2.2.2.2 (y.2.1.flatMap ptrC) :: staysA p y.2.1 (through (es.take (y.1))).stays :: mapA encI b12 y.2.2.2.1 :: mapA encI b13 y.2.2.2.2.1 :: ro ρ :: rs) τ ∧ y.1 ≤ es.length ∧ JIs es y.2.1 (through (es.take y.1)) y.2.2.1 y.2.2.2.1 y.2.2.2.2.1 y.1) (fun y => es.length - y.1) ((0, [], [], [], [], none, 0)) rfl (⟨hS, Nat.zero_le _, JIs.init es⟩) ?_
  intro ⟨i, bs, al, lal, nal, sp, sc⟩ τ ⟨hS, hle, hJ⟩ back
  simp only [] at hS hle hJ
  obtain ⟨_, _, _, _, hnd, _⟩ := hS.map 5 rfl
  show St _ _ _ [(16, _), (15, _), (5, _), (4, _), (3, _), (2, _), (0, _)] _ _ _
  refine St.seq ?_
  refine St.region rfl ?_
  refine Reg.q rfl rfl rfl (q_lt rfl rfl) ?_
  refine Reg.done ?_
  refine St.keep [16, 15, 5, 4, 3, 2, 0, 17] ?_
  show St _ _ _ [(17, _), (16, _), (15, _), (5, _), (4, _), (3, _), (2, _), (0, _)] _ _ _
  refine St.seq ?_
  refine St.cond rfl (fun hc0 => ?_) (fun hc0 => ?_)
  · simp at hc0
    obtain ⟨e, hi⟩ : ∃ e, es[i]? = some e := ⟨_, List.getElem?_eq_getElem hc0⟩
    have hst := through_take hi
    obtain ⟨lb, lo, cs, TT, fz, rfl, hb, hlt, hr⟩ := hT.row hi
    refine St.skip ?_
    refine St.seq ?_
    refine St.block ?_
    refine St.seq ?_
    refine St.region rfl ?_
    refine Reg.q rfl rfl rfl (q_move rfl) ?_
    refine Reg.q rfl rfl rfl (q_assign rfl) ?_
    refine Reg.done ?_
    refine St.keep [17, 16, 15, 5, 4, 3, 2, 0, 6] ?_
    show St _ _ _ [(6, _), (17, _), (16, _), (15, _), (5, _), (4, _), (3, _), (2, _), (0, _)] _ _ _
    refine St.seq ?_
    refine St.region rfl ?_
    refine Reg.q rfl rfl rfl (q_move rfl) ?_
    refine Reg.q rfl rfl rfl (q_move rfl) ?_
    refine Reg.q rfl rfl rfl (q_indexAt se_22 rfl rfl rfl (by omega) rfl) ?_
    refine Reg.q rfl rfl rfl (q_assign rfl) ?_
    refine Reg.done ?_
    refine St.keep [6, 17, 16, 15, 5, 4, 3, 2, 0, 7] ?_
    show St _ _ _ [(7, _), (6, _), (17, _), (16, _), (15, _), (5, _), (4, _), (3, _), (2, _), (0, _)] _ _ _
    refine St.seq ?_
    refine St.region rfl ?_
    refine Reg.q rfl rfl rfl (q_move rfl) ?_
    refine Reg.q rfl rfl rfl (q_nil rfl) ?_
    refine Reg.q rfl rfl rfl (q_fieldAddr fo_39_0 rfl rfl) ?_
    refine Reg.q rfl rfl rfl (q_load1 ac_3 rfl (hS.ro 6 rfl _ _ hb) (row_cell hr 0 rfl)) ?_
    refine Reg.done ?_
    refine St.keep [7, 6, 17, 16, 15, 5, 4, 3, 2, 0, 25] ?_
    show St _ _ _ [(25, _), (7, _), (6, _), (17, _), (16, _), (15, _), (5, _), (4, _), (3, _), (2, _), (0, _)] _ _ _
    refine St.block ?_
    refine St.seq ?_
    refine St.region rfl ?_
    refine Reg.q rfl rfl rfl (q_ieq rfl rfl) ?_
    refine Reg.q rfl rfl rfl (q_assign rfl) ?_
    refine Reg.done ?_
    refine St.keep [25, 7, 6, 17, 16, 15, 5, 4, 3, 2, 0, 36] ?_
    show St _ _ _ [(36, _), (25, _), (7, _), (6, _), (17, _), (16, _), (15, _), (5, _), (4, _), (3, _), (2, _), (0, _)] _ _ _
    refine St.cond rfl (fun hc1 => ?_) (fun hc1 => ?_)
    · skip
      refine St.seq ?_
      refine St.region rfl ?_
      refine Reg.q rfl rfl rfl (q_move rfl) ?_
      refine Reg.q rfl rfl rfl (q_move rfl) ?_
      refine Reg.q rfl rfl rfl (q_nil rfl) ?_
      refine Reg.q rfl rfl rfl (q_fieldAddr fo_39_1 rfl rfl) ?_
      refine Reg.q rfl rfl rfl (q_load1 ac_3 rfl (hS.ro 6 rfl _ _ hb) (row_cell hr 1 rfl)) ?_
      refine Reg.no rfl rfl (e_mapUpdate Try.underlying50 key_3 rfl rfl rfl (hS.map 4 rfl) (fun τu11_5 hmu11_5 huu11_5 => ?_))
      replace hS : Stars (_ :: _ :: _ :: _ :: _ :: _ :: _ :: rs) _ := (hS.top 4 rfl).mapU huu11_5 hmu11_5
      refine Reg.done ?_
      refine St.keep [36, 25, 7, 6, 17, 16, 15, 5, 4, 3, 2, 0] ?_
      show St _ _ _ [(36, _), (25, _), (7, _), (6, _), (17, _), (16, _), (15, _), (5, _), (4, _), (3, _), (2, _), (0, _)] _ _ _
      refine St.region rfl ?_
      refine Reg.q rfl rfl rfl (q_move rfl) ?_
      refine Reg.q rfl rfl rfl (q_move rfl) ?_
      refine Reg.q rfl rfl rfl (q_nil rfl) ?_
      refine Reg.q rfl rfl rfl (q_fieldAddr fo_39_1 rfl rfl) ?_
      refine Reg.q rfl rfl rfl (q_load1 ac_3 rfl (hS.ro 6 rfl _ _ hb) (row_cell hr 1 rfl)) ?_
      refine Reg.no rfl rfl (e_delete rfl Try.underlying87 key_3 rfl rfl (hS.map 5 rfl) (fun τd12_5 hmd12_5 hud12_5 => ?_))
      replace hS : Stars (_ :: _ :: _ :: _ :: _ :: _ :: _ :: rs) _ := (hS.top 5 rfl).mapU hud12_5 hmd12_5
      refine Reg.done ?_
      refine St.keep [36, 25, 7, 6, 17, 16, 15, 5, 4, 3, 2, 0] ?_
      show St _ _ _ [(36, _), (25, _), (7, _), (6, _), (17, _), (16, _), (15, _), (5, _), (4, _), (3, _), (2, _), (0, _)] _ _ _
      refine St.inBlock ?_
      refine St.inBlock ?_
      refine St.region rfl ?_
      refine Reg.q rfl rfl rfl (q_add rfl rfl (inc64 (by omega))) ?_
      refine Reg.q rfl rfl rfl (q_move rfl) ?_
      refine Reg.done ?_
      refine St.keep [36, 25, 7, 6, 17, 16, 15, 5, 4, 3, 2, 0] ?_
      show St _ _ _ [(16, _), (36, _), (25, _), (7, _), (6, _), (17, _), (16, _), (15, _), (5, _), (4, _), (3, _), (2, _), (0, _)] _ _ _
      have hst1 := hst.trans (step_start (show e.kind = 5 by simpa using hc1))
      replace hS : Stars (_ :: _ :: _ :: _ :: _ :: _ :: _ :: rs) _ := hS.top 6 rfl
      replace hS : Stars (_ :: _ :: _ :: _ :: _ :: _ :: _ :: rs) _ := hS.top 1 rfl
      replace hS : Stars (_ :: _ :: _ :: _ :: _ :: _ :: _ :: rs) _ := hS.top 2 rfl
      replace hS : Stars (_ :: _ :: _ :: _ :: _ :: _ :: _ :: rs) _ := hS.top 6 rfl
      replace hS : Stars (_ :: _ :: _ :: _ :: _ :: _ :: _ :: rs) _ := hS.top 6 rfl
      replace hS : Stars (_ :: _ :: _ :: _ :: _ :: _ :: _ :: rs) _ := hS.top 6 rfl
      replace hS : Stars (_ :: _ :: _ :: _ :: _ :: _ :: _ :: rs) _ := hS.top 6 rfl
      refine St.conv (SubL.list (by rfl)) (Sub.rfl' _) (back ((i + 1, bs, al, put lal e.proc (.bool true), del nal e.proc, sp, sc)) _ ?_ ?_)
      · exact ⟨by rw [hst1]; exact hS, by simp only []; omega, by rw [hst1]; exact hJ.life hnd _ _⟩
      · simp only []; omega
    · skip
      refine St.seq ?_
      refine St.region rfl ?_
      refine Reg.q rfl rfl rfl (q_ieq rfl rfl) ?_
      refine Reg.q rfl rfl rfl (q_assign rfl) ?_
      refine Reg.done ?_
      refine St.keep [36, 25, 7, 6, 17, 16, 15, 5, 4, 3, 2, 0, 48] ?_
      show St _ _ _ [(48, _), (36, _), (25, _), (7, _), (6, _), (17, _), (16, _), (15, _), (5, _), (4, _), (3, _), (2, _), (0, _)] _ _ _
      refine St.cond rfl (fun hc2 => ?_) (fun hc2 => ?_)
      · skip
        refine St.seq ?_
        refine St.region rfl ?_
        refine Reg.q rfl rfl rfl (q_move rfl) ?_
        refine Reg.q rfl rfl rfl (q_move rfl) ?_
        refine Reg.q rfl rfl rfl (q_nil rfl) ?_
        refine Reg.q rfl rfl rfl (q_fieldAddr fo_39_1 rfl rfl) ?_
        refine Reg.q rfl rfl rfl (q_load1 ac_3 rfl (hS.ro 6 rfl _ _ hb) (row_cell hr 1 rfl)) ?_
        refine Reg.no rfl rfl (e_mapUpdate Try.underlying50 key_3 rfl rfl rfl (hS.map 4 rfl) (fun τu14_5 hmu14_5 huu14_5 => ?_))
        replace hS : Stars (_ :: _ :: _ :: _ :: _ :: _ :: _ :: rs) _ := (hS.top 4 rfl).mapU huu14_5 hmu14_5
        refine Reg.done ?_
        refine St.keep [48, 36, 25, 7, 6, 17, 16, 15, 5, 4, 3, 2, 0] ?_
        show St _ _ _ [(48, _), (36, _), (25, _), (7, _), (6, _), (17, _), (16, _), (15, _), (5, _), (4, _), (3, _), (2, _), (0, _)] _ _ _
        refine St.region rfl ?_
        refine Reg.q rfl rfl rfl (q_move rfl) ?_
        refine Reg.q rfl rfl rfl (q_move rfl) ?_
        refine Reg.q rfl rfl rfl (q_nil rfl) ?_
        refine Reg.q rfl rfl rfl (q_fieldAddr fo_39_1 rfl rfl) ?_
        refine Reg.q rfl rfl rfl (q_load1 ac_3 rfl (hS.ro 6 rfl _ _ hb) (row_cell hr 1 rfl)) ?_
        refine Reg.no rfl rfl (e_delete rfl Try.underlying87 key_3 rfl rfl (hS.map 5 rfl) (fun τd15_5 hmd15_5 hud15_5 => ?_))
        replace hS : Stars (_ :: _ :: _ :: _ :: _ :: _ :: _ :: rs) _ := (hS.top 5 rfl).mapU hud15_5 hmd15_5
        refine Reg.done ?_
        refine St.keep [48, 36, 25, 7, 6, 17, 16, 15, 5, 4, 3, 2, 0] ?_
        show St _ _ _ [(48, _), (36, _), (25, _), (7, _), (6, _), (17, _), (16, _), (15, _), (5, _), (4, _), (3, _), (2, _), (0, _)] _ _ _
        refine St.inBlock ?_
        refine St.inBlock ?_
        refine St.region rfl ?_
        refine Reg.q rfl rfl rfl (q_add rfl rfl (inc64 (by omega))) ?_
        refine Reg.q rfl rfl rfl (q_move rfl) ?_
        refine Reg.done ?_
        refine St.keep [48, 36, 25, 7, 6, 17, 16, 15, 5, 4, 3, 2, 0] ?_
        show St _ _ _ [(16, _), (48, _), (36, _), (25, _), (7, _), (6, _), (17, _), (16, _), (15, _), (5, _), (4, _), (3, _), (2, _), (0, _)] _ _ _
        have hst1 := hst.trans (step_stop (show e.kind = 6 by simpa using hc2))
        replace hS : Stars (_ :: _ :: _ :: _ :: _ :: _ :: _ :: rs) _ := hS.top 6 rfl
        replace hS : Stars (_ :: _ :: _ :: _ :: _ :: _ :: _ :: rs) _ := hS.top 1 rfl
        replace hS : Stars (_ :: _ :: _ :: _ :: _ :: _ :: _ :: rs) _ := hS.top 2 rfl
        replace hS : Stars (_ :: _ :: _ :: _ :: _ :: _ :: _ :: rs) _ := hS.top 6 rfl
        replace hS : Stars (_ :: _ :: _ :: _ :: _ :: _ :: _ :: rs) _ := hS.top 6 rfl
        replace hS : Stars (_ :: _ :: _ :: _ :: _ :: _ :: _ :: rs) _ := hS.top 6 rfl
        replace hS : Stars (_ :: _ :: _ :: _ :: _ :: _ :: _ :: rs) _ := hS.top 6 rfl
        refine St.conv (SubL.list (by rfl)) (Sub.rfl' _) (back ((i + 1, bs, al, put lal e.proc (.bool false), del nal e.proc, sp, sc)) _ ?_ ?_)
        · exact ⟨by rw [hst1]; exact hS, by simp only []; omega, by rw [hst1]; exact hJ.life hnd _ _⟩
        · simp only []; omega
      · skip
        refine St.seq ?_
        refine St.region rfl ?_
        refine Reg.q rfl rfl rfl (q_ieq rfl rfl) ?_
        refine Reg.q rfl rfl rfl (q_assign rfl) ?_
        refine Reg.done ?_
        refine St.keep [48, 36, 25, 7, 6, 17, 16, 15, 5, 4, 3, 2, 0, 60] ?_
        show St _ _ _ [(60, _), (48, _), (36, _), (25, _), (7, _), (6, _), (17, _), (16, _), (15, _), (5, _), (4, _), (3, _), (2, _), (0, _)] _ _ _
        refine St.cond rfl (fun hc3 => ?_) (fun hc3 => ?_)
        · skip
          refine St.region rfl ?_
          refine Reg.q rfl rfl rfl (q_move rfl) ?_
          refine Reg.q rfl rfl rfl (q_move rfl) ?_
          refine Reg.q rfl rfl rfl (q_move rfl) ?_
          refine Reg.q rfl rfl rfl (q_move rfl) ?_
          refine Reg.q rfl rfl rfl (q_nil rfl) ?_
          refine Reg.q rfl rfl rfl (q_fieldAddr fo_39_1 rfl rfl) ?_
          refine Reg.q rfl rfl rfl (q_load1 ac_3 rfl (hS.ro 6 rfl _ _ hb) (row_cell hr 1 rfl)) ?_
          refine Reg.q rfl rfl rfl (q_lookup Try.underlying50 key_3 zv_4 rfl rfl (hS.map 4 rfl) (hJ.live e.proc)) ?_
          refine Reg.q rfl rfl rfl (q_move rfl) ?_
          replace hS : Stars (_ :: _ :: _ :: _ :: _ :: _ :: _ :: rs) _ := hS.top 4 rfl
          replace hS : Stars (_ :: _ :: _ :: _ :: _ :: _ :: _ :: rs) _ := hS.top 6 rfl
          replace hS : Stars (_ :: _ :: _ :: _ :: _ :: _ :: _ :: rs) _ := hS.top 6 rfl
          replace hS : Stars (_ :: _ :: _ :: _ :: _ :: _ :: _ :: rs) _ := hS.top 6 rfl
          replace hS : Stars (_ :: _ :: _ :: _ :: _ :: _ :: _ :: rs) _ := hS.top 6 rfl
          replace hS : Stars (_ :: _ :: _ :: _ :: _ :: _ :: _ :: rs) _ := hS.top 6 rfl
          replace hS : Stars (_ :: _ :: _ :: _ :: _ :: _ :: _ :: rs) _ := hS.top 6 rfl
          refine Reg.x rfl rfl rfl (e_callF rfl rfl rfl ca_31 ((jreg_spec i _ ρ _ es _ _ _ hT hes _ _ _ _ _ bs _ al lal nal hJ hS e hi).mono fun v71 τ71 h71 => ?_))
          skip
          refine Reg.done ?_
          refine St.keep [60, 48, 36, 25, 7, 6, 17, 16, 15, 5, 4, 3, 2, 0] ?_
          show St _ _ _ [(60, _), (48, _), (36, _), (25, _), (7, _), (6, _), (17, _), (16, _), (15, _), (5, _), (4, _), (3, _), (2, _), (0, _)] _ _ _
          refine St.inBlock ?_
          refine St.inBlock ?_
          refine St.region rfl ?_
          refine Reg.q rfl rfl rfl (q_add rfl rfl (inc64 (by omega))) ?_
          refine Reg.q rfl rfl rfl (q_move rfl) ?_
          refine Reg.done ?_
          refine St.keep [60, 48, 36, 25, 7, 6, 17, 16, 15, 5, 4, 3, 2, 0] ?_
          show St _ _ _ [(16, _), (60, _), (48, _), (36, _), (25, _), (7, _), (6, _), (17, _), (16, _), (15, _), (5, _), (4, _), (3, _), (2, _), (0, _)] _ _ _
          obtain ⟨al', sp', sc', b', hS, hJ1⟩ := h71
          replace hS : Stars (_ :: _ :: _ :: _ :: _ :: _ :: _ :: rs) _ := hS.top 5 rfl
          replace hS : Stars (_ :: _ :: _ :: _ :: _ :: _ :: _ :: rs) _ := hS.top 5 rfl
          replace hS : Stars (_ :: _ :: _ :: _ :: _ :: _ :: _ :: rs) _ := hS.top 6 rfl
          replace hS : Stars (_ :: _ :: _ :: _ :: _ :: _ :: _ :: rs) _ := hS.top 6 rfl
          replace hS : Stars (_ :: _ :: _ :: _ :: _ :: _ :: _ :: rs) _ := hS.top 6 rfl
          replace hS : Stars (_ :: _ :: _ :: _ :: _ :: _ :: _ :: rs) _ := hS.top 6 rfl
          replace hS : Stars (_ :: _ :: _ :: _ :: _ :: _ :: _ :: rs) _ := hS.top 6 rfl
          have hst1 := hst.trans (step_reg (show e.kind = 3 by simpa using hc3))
          have hnm := (reg_rest (through (es.take i)) i e).2.1
          rw [← hnm] at hS
          refine St.conv (SubL.list (by rfl)) (Sub.rfl' _) (back ((i + 1, bs ++ [b'], al', lal, put nal e.proc (.pointer (some ⟨b', 0, none⟩)), sp', sc')) _ ?_ ?_)
          · exact ⟨by rw [hst1]; exact hS, by simp only []; omega, by rw [hst1]; exact hJ1⟩
          · simp only []; omega
        · skip
          refine St.seq ?_
          refine St.seq ?_
          refine St.region rfl ?_
          refine Reg.q rfl rfl rfl (q_ieq rfl rfl) ?_
          refine Reg.q rfl rfl rfl (q_assign rfl) ?_
          refine Reg.done ?_
          refine St.keep [60, 48, 36, 25, 7, 6, 17, 16, 15, 5, 4, 3, 2, 0, 72] ?_
          show St _ _ _ [(72, _), (60, _), (48, _), (36, _), (25, _), (7, _), (6, _), (17, _), (16, _), (15, _), (5, _), (4, _), (3, _), (2, _), (0, _)] _ _ _
          refine St.cond rfl (fun hc4 => ?_) (fun hc4 => ?_)
          · skip
            refine St.skip ?_
            refine St.cond rfl (fun hc6 => ?_) (fun hc6 => ?_)
            · skip
              refine St.draw0 [15] [(0, .w), (1, .w), (2, .w), (3, .w), (4, .w), (5, .w), (6, .w), (7, .r), (8, .r), (9, .w), (10, .w), (11, .w), (12, .w), (13, .r), (14, .r), (15, .x)] mixed (by kernel_rfl) rfl ?_
              refine Dr.w rfl rfl rfl rfl (q_move rfl) ?_
              refine Dr.w rfl rfl rfl rfl (q_move rfl) ?_
              refine Dr.w rfl rfl rfl rfl (q_move rfl) ?_
              refine Dr.w rfl rfl rfl rfl (q_move rfl) ?_
              refine Dr.w rfl rfl rfl rfl (q_move rfl) ?_
              refine Dr.w rfl rfl rfl rfl (q_nil rfl) ?_
              refine Dr.w rfl rfl rfl rfl (q_fieldAddr fo_39_1 rfl rfl) ?_
              refine Dr.r rfl rfl rfl rfl (Sub.rfl' _) (q_load1 ac_3 rfl (hS.ro 6 rfl _ _ hb) (row_cell hr 1 rfl)) ?_
              refine Dr.r rfl rfl rfl rfl (Sub.rfl' _) (q_lookup Try.underlying50 key_3 zv_4 rfl rfl (hS.map 4 rfl) (hJ.live e.proc)) ?_
              refine Dr.w rfl rfl rfl rfl (q_move rfl) ?_
              refine Dr.w rfl rfl rfl rfl (q_move rfl) ?_
              refine Dr.w rfl rfl rfl rfl (q_nil rfl) ?_
              refine Dr.w rfl rfl rfl rfl (q_fieldAddr fo_39_1 rfl rfl) ?_
              refine Dr.r rfl rfl rfl rfl (Sub.rfl' _) (q_load1 ac_3 rfl (hS.ro 6 rfl _ _ hb) (row_cell hr 1 rfl)) ?_
              refine Dr.r rfl rfl rfl rfl (Sub.rfl' _) (q_lookup Try.underlying87 key_3 zv_90 rfl rfl (hS.map 5 rfl) (hJ.now.get e.proc)) ?_
              replace hS : Stars (_ :: _ :: _ :: _ :: _ :: _ :: _ :: rs) _ := hS.top 2 rfl
              replace hS : Stars (_ :: _ :: _ :: _ :: _ :: _ :: _ :: rs) _ := hS.top 5 rfl
              replace hS : Stars (_ :: _ :: _ :: _ :: _ :: _ :: _ :: rs) _ := hS.top 5 rfl
              replace hS : Stars (_ :: _ :: _ :: _ :: _ :: _ :: _ :: rs) _ := hS.top 6 rfl
              replace hS : Stars (_ :: _ :: _ :: _ :: _ :: _ :: _ :: rs) _ := hS.top 6 rfl
              replace hS : Stars (_ :: _ :: _ :: _ :: _ :: _ :: _ :: rs) _ := hS.top 6 rfl
              replace hS : Stars (_ :: _ :: _ :: _ :: _ :: _ :: _ :: rs) _ := hS.top 6 rfl
              refine Dr.x rfl rfl rfl rfl (e_callF rfl rfl rfl ca_32 ((jinn_spec i _ ρ _ es _ hT hes _ _ _ _ _ bs _ al lal nal hJ hS e hi).mono fun v91 τ91 h91 => ?_))
              skip
              refine ⟨.inl rfl, ?_⟩
              refine Dr.done ?_
              refine St.keep [72, 60, 48, 36, 25, 7, 6, 17, 16, 15, 5, 4, 3, 2, 0] ?_
              show St _ _ _ [(72, _), (60, _), (48, _), (36, _), (25, _), (7, _), (6, _), (17, _), (16, _), (15, _), (5, _), (4, _), (3, _), (2, _), (0, _)] _ _ _
              refine St.inBlock ?_
              refine St.inBlock ?_
              refine St.region rfl ?_
              refine Reg.q rfl rfl rfl (q_add rfl rfl (inc64 (by omega))) ?_
              refine Reg.q rfl rfl rfl (q_move rfl) ?_
              refine Reg.done ?_
              refine St.keep [72, 60, 48, 36, 25, 7, 6, 17, 16, 15, 5, 4, 3, 2, 0] ?_
              show St _ _ _ [(16, _), (72, _), (60, _), (48, _), (36, _), (25, _), (7, _), (6, _), (17, _), (16, _), (15, _), (5, _), (4, _), (3, _), (2, _), (0, _)] _ _ _
              obtain ⟨al1, hS, hJ1⟩ := h91
              replace hS : Stars (_ :: _ :: _ :: _ :: _ :: _ :: _ :: rs) _ := hS.top 3 rfl
              replace hS : Stars (_ :: _ :: _ :: _ :: _ :: _ :: _ :: rs) _ := hS.top 5 rfl
              replace hS : Stars (_ :: _ :: _ :: _ :: _ :: _ :: _ :: rs) _ := hS.top 5 rfl
              replace hS : Stars (_ :: _ :: _ :: _ :: _ :: _ :: _ :: rs) _ := hS.top 5 rfl
              replace hS : Stars (_ :: _ :: _ :: _ :: _ :: _ :: _ :: rs) _ := hS.top 6 rfl
              replace hS : Stars (_ :: _ :: _ :: _ :: _ :: _ :: _ :: rs) _ := hS.top 6 rfl
              replace hS : Stars (_ :: _ :: _ :: _ :: _ :: _ :: _ :: rs) _ := hS.top 6 rfl
              have hst1 := hst.trans (step_inn (show e.kind = 1 ∨ e.kind = 2 ∨ e.kind = 4 by simp at hc4; omega))
              have hlen := inn_len (through (es.take i)) i e
              have hnm := inn_named (through (es.take i)) i e
              rw [← hlen, ← hnm] at hS
              refine St.conv (SubL.list (by rfl)) (Sub.rfl' _) (back ((i + 1, bs, al1, lal, nal, sp, sc)) _ ?_ ?_)
              · exact ⟨by rw [hst1]; exact hS, by simp only []; omega, by rw [hst1]; exact hJ1⟩
              · simp only []; omega
            · exact absurd (hc4.symm.trans hc6) (by decide) -- PRUNE
          · skip
            refine St.seq ?_
            refine St.region rfl ?_
            refine Reg.q rfl rfl rfl (q_ieq rfl rfl) ?_
            refine Reg.q rfl rfl rfl (q_assign rfl) ?_
            refine Reg.done ?_
            refine St.keep [72, 60, 48, 36, 25, 7, 6, 17, 16, 15, 5, 4, 3, 2, 0] ?_
            show St _ _ _ [(72, _), (72, _), (60, _), (48, _), (36, _), (25, _), (7, _), (6, _), (17, _), (16, _), (15, _), (5, _), (4, _), (3, _), (2, _), (0, _)] _ _ _
            refine St.cond rfl (fun hc5 => ?_) (fun hc5 => ?_)
            · skip
              refine St.skip ?_
              refine St.cond rfl (fun hc6 => ?_) (fun hc6 => ?_)
              · skip
                refine St.draw0 [15] [(0, .w), (1, .w), (2, .w), (3, .w), (4, .w), (5, .w), (6, .w), (7, .r), (8, .r), (9, .w), (10, .w), (11, .w), (12, .w), (13, .r), (14, .r), (15, .x)] mixed (by kernel_rfl) rfl ?_
                refine Dr.w rfl rfl rfl rfl (q_move rfl) ?_
                refine Dr.w rfl rfl rfl rfl (q_move rfl) ?_
                refine Dr.w rfl rfl rfl rfl (q_move rfl) ?_
                refine Dr.w rfl rfl rfl rfl (q_move rfl) ?_
                refine Dr.w rfl rfl rfl rfl (q_move rfl) ?_
                refine Dr.w rfl rfl rfl rfl (q_nil rfl) ?_
                refine Dr.w rfl rfl rfl rfl (q_fieldAddr fo_39_1 rfl rfl) ?_
                refine Dr.r rfl rfl rfl rfl (Sub.rfl' _) (q_load1 ac_3 rfl (hS.ro 6 rfl _ _ hb) (row_cell hr 1 rfl)) ?_
                refine Dr.r rfl rfl rfl rfl (Sub.rfl' _) (q_lookup Try.underlying50 key_3 zv_4 rfl rfl (hS.map 4 rfl) (hJ.live e.proc)) ?_
                refine Dr.w rfl rfl rfl rfl (q_move rfl) ?_
                refine Dr.w rfl rfl rfl rfl (q_move rfl) ?_
                refine Dr.w rfl rfl rfl rfl (q_nil rfl) ?_
                refine Dr.w rfl rfl rfl rfl (q_fieldAddr fo_39_1 rfl rfl) ?_
                refine Dr.r rfl rfl rfl rfl (Sub.rfl' _) (q_load1 ac_3 rfl (hS.ro 6 rfl _ _ hb) (row_cell hr 1 rfl)) ?_
                refine Dr.r rfl rfl rfl rfl (Sub.rfl' _) (q_lookup Try.underlying87 key_3 zv_90 rfl rfl (hS.map 5 rfl) (hJ.now.get e.proc)) ?_
                replace hS : Stars (_ :: _ :: _ :: _ :: _ :: _ :: _ :: rs) _ := hS.top 2 rfl
                replace hS : Stars (_ :: _ :: _ :: _ :: _ :: _ :: _ :: rs) _ := hS.top 5 rfl
                replace hS : Stars (_ :: _ :: _ :: _ :: _ :: _ :: _ :: rs) _ := hS.top 5 rfl
                replace hS : Stars (_ :: _ :: _ :: _ :: _ :: _ :: _ :: rs) _ := hS.top 6 rfl
                replace hS : Stars (_ :: _ :: _ :: _ :: _ :: _ :: _ :: rs) _ := hS.top 6 rfl
                replace hS : Stars (_ :: _ :: _ :: _ :: _ :: _ :: _ :: rs) _ := hS.top 6 rfl
                replace hS : Stars (_ :: _ :: _ :: _ :: _ :: _ :: _ :: rs) _ := hS.top 6 rfl
                refine Dr.x rfl rfl rfl rfl (e_callF rfl rfl rfl ca_32 ((jinn_spec i _ ρ _ es _ hT hes _ _ _ _ _ bs _ al lal nal hJ hS e hi).mono fun v91 τ91 h91 => ?_))
                skip
                refine ⟨.inl rfl, ?_⟩
                refine Dr.done ?_
                refine St.keep [72, 72, 60, 48, 36, 25, 7, 6, 17, 16, 15, 5, 4, 3, 2, 0] ?_
                show St _ _ _ [(72, _), (72, _), (60, _), (48, _), (36, _), (25, _), (7, _), (6, _), (17, _), (16, _), (15, _), (5, _), (4, _), (3, _), (2, _), (0, _)] _ _ _
                refine St.inBlock ?_
                refine St.inBlock ?_
                refine St.region rfl ?_
                refine Reg.q rfl rfl rfl (q_add rfl rfl (inc64 (by omega))) ?_
                refine Reg.q rfl rfl rfl (q_move rfl) ?_
                refine Reg.done ?_
                refine St.keep [72, 72, 60, 48, 36, 25, 7, 6, 17, 16, 15, 5, 4, 3, 2, 0] ?_
                show St _ _ _ [(16, _), (72, _), (72, _), (60, _), (48, _), (36, _), (25, _), (7, _), (6, _), (17, _), (16, _), (15, _), (5, _), (4, _), (3, _), (2, _), (0, _)] _ _ _
                obtain ⟨al1, hS, hJ1⟩ := h91
                replace hS : Stars (_ :: _ :: _ :: _ :: _ :: _ :: _ :: rs) _ := hS.top 3 rfl
                replace hS : Stars (_ :: _ :: _ :: _ :: _ :: _ :: _ :: rs) _ := hS.top 5 rfl
                replace hS : Stars (_ :: _ :: _ :: _ :: _ :: _ :: _ :: rs) _ := hS.top 5 rfl
                replace hS : Stars (_ :: _ :: _ :: _ :: _ :: _ :: _ :: rs) _ := hS.top 5 rfl
                replace hS : Stars (_ :: _ :: _ :: _ :: _ :: _ :: _ :: rs) _ := hS.top 6 rfl
                replace hS : Stars (_ :: _ :: _ :: _ :: _ :: _ :: _ :: rs) _ := hS.top 6 rfl
                replace hS : Stars (_ :: _ :: _ :: _ :: _ :: _ :: _ :: rs) _ := hS.top 6 rfl
                have hst1 := hst.trans (step_inn (show e.kind = 1 ∨ e.kind = 2 ∨ e.kind = 4 by simp at hc5; omega))
                have hlen := inn_len (through (es.take i)) i e
                have hnm := inn_named (through (es.take i)) i e
                rw [← hlen, ← hnm] at hS
                refine St.conv (SubL.list (by rfl)) (Sub.rfl' _) (back ((i + 1, bs, al1, lal, nal, sp, sc)) _ ?_ ?_)
                · exact ⟨by rw [hst1]; exact hS, by simp only []; omega, by rw [hst1]; exact hJ1⟩
                · simp only []; omega
              · exact absurd (hc5.symm.trans hc6) (by decide) -- PRUNE
            · skip
              refine St.region rfl ?_
              refine Reg.q rfl rfl rfl (q_ieq rfl rfl) ?_
              refine Reg.q rfl rfl rfl (q_assign rfl) ?_
              refine Reg.done ?_
              refine St.keep [72, 72, 60, 48, 36, 25, 7, 6, 17, 16, 15, 5, 4, 3, 2, 0] ?_
              show St _ _ _ [(72, _), (72, _), (72, _), (60, _), (48, _), (36, _), (25, _), (7, _), (6, _), (17, _), (16, _), (15, _), (5, _), (4, _), (3, _), (2, _), (0, _)] _ _ _
              refine St.cond rfl (fun hc6 => ?_) (fun hc6 => ?_)
              · skip
                refine St.draw0 [15] [(0, .w), (1, .w), (2, .w), (3, .w), (4, .w), (5, .w), (6, .w), (7, .r), (8, .r), (9, .w), (10, .w), (11, .w), (12, .w), (13, .r), (14, .r), (15, .x)] mixed (by kernel_rfl) rfl ?_
                refine Dr.w rfl rfl rfl rfl (q_move rfl) ?_
                refine Dr.w rfl rfl rfl rfl (q_move rfl) ?_
                refine Dr.w rfl rfl rfl rfl (q_move rfl) ?_
                refine Dr.w rfl rfl rfl rfl (q_move rfl) ?_
                refine Dr.w rfl rfl rfl rfl (q_move rfl) ?_
                refine Dr.w rfl rfl rfl rfl (q_nil rfl) ?_
                refine Dr.w rfl rfl rfl rfl (q_fieldAddr fo_39_1 rfl rfl) ?_
                refine Dr.r rfl rfl rfl rfl (Sub.rfl' _) (q_load1 ac_3 rfl (hS.ro 6 rfl _ _ hb) (row_cell hr 1 rfl)) ?_
                refine Dr.r rfl rfl rfl rfl (Sub.rfl' _) (q_lookup Try.underlying50 key_3 zv_4 rfl rfl (hS.map 4 rfl) (hJ.live e.proc)) ?_
                refine Dr.w rfl rfl rfl rfl (q_move rfl) ?_
                refine Dr.w rfl rfl rfl rfl (q_move rfl) ?_
                refine Dr.w rfl rfl rfl rfl (q_nil rfl) ?_
                refine Dr.w rfl rfl rfl rfl (q_fieldAddr fo_39_1 rfl rfl) ?_
                refine Dr.r rfl rfl rfl rfl (Sub.rfl' _) (q_load1 ac_3 rfl (hS.ro 6 rfl _ _ hb) (row_cell hr 1 rfl)) ?_
                refine Dr.r rfl rfl rfl rfl (Sub.rfl' _) (q_lookup Try.underlying87 key_3 zv_90 rfl rfl (hS.map 5 rfl) (hJ.now.get e.proc)) ?_
                replace hS : Stars (_ :: _ :: _ :: _ :: _ :: _ :: _ :: rs) _ := hS.top 2 rfl
                replace hS : Stars (_ :: _ :: _ :: _ :: _ :: _ :: _ :: rs) _ := hS.top 5 rfl
                replace hS : Stars (_ :: _ :: _ :: _ :: _ :: _ :: _ :: rs) _ := hS.top 5 rfl
                replace hS : Stars (_ :: _ :: _ :: _ :: _ :: _ :: _ :: rs) _ := hS.top 6 rfl
                replace hS : Stars (_ :: _ :: _ :: _ :: _ :: _ :: _ :: rs) _ := hS.top 6 rfl
                replace hS : Stars (_ :: _ :: _ :: _ :: _ :: _ :: _ :: rs) _ := hS.top 6 rfl
                replace hS : Stars (_ :: _ :: _ :: _ :: _ :: _ :: _ :: rs) _ := hS.top 6 rfl
                refine Dr.x rfl rfl rfl rfl (e_callF rfl rfl rfl ca_32 ((jinn_spec i _ ρ _ es _ hT hes _ _ _ _ _ bs _ al lal nal hJ hS e hi).mono fun v91 τ91 h91 => ?_))
                skip
                refine ⟨.inl rfl, ?_⟩
                refine Dr.done ?_
                refine St.keep [72, 72, 72, 60, 48, 36, 25, 7, 6, 17, 16, 15, 5, 4, 3, 2, 0] ?_
                show St _ _ _ [(72, _), (72, _), (72, _), (60, _), (48, _), (36, _), (25, _), (7, _), (6, _), (17, _), (16, _), (15, _), (5, _), (4, _), (3, _), (2, _), (0, _)] _ _ _
                refine St.inBlock ?_
                refine St.inBlock ?_
                refine St.region rfl ?_
                refine Reg.q rfl rfl rfl (q_add rfl rfl (inc64 (by omega))) ?_
                refine Reg.q rfl rfl rfl (q_move rfl) ?_
                refine Reg.done ?_
                refine St.keep [72, 72, 72, 60, 48, 36, 25, 7, 6, 17, 16, 15, 5, 4, 3, 2, 0] ?_
                show St _ _ _ [(16, _), (72, _), (72, _), (72, _), (60, _), (48, _), (36, _), (25, _), (7, _), (6, _), (17, _), (16, _), (15, _), (5, _), (4, _), (3, _), (2, _), (0, _)] _ _ _
                obtain ⟨al1, hS, hJ1⟩ := h91
                replace hS : Stars (_ :: _ :: _ :: _ :: _ :: _ :: _ :: rs) _ := hS.top 3 rfl
                replace hS : Stars (_ :: _ :: _ :: _ :: _ :: _ :: _ :: rs) _ := hS.top 5 rfl
                replace hS : Stars (_ :: _ :: _ :: _ :: _ :: _ :: _ :: rs) _ := hS.top 5 rfl
                replace hS : Stars (_ :: _ :: _ :: _ :: _ :: _ :: _ :: rs) _ := hS.top 5 rfl
                replace hS : Stars (_ :: _ :: _ :: _ :: _ :: _ :: _ :: rs) _ := hS.top 6 rfl
                replace hS : Stars (_ :: _ :: _ :: _ :: _ :: _ :: _ :: rs) _ := hS.top 6 rfl
                replace hS : Stars (_ :: _ :: _ :: _ :: _ :: _ :: _ :: rs) _ := hS.top 6 rfl
                have hst1 := hst.trans (step_inn (show e.kind = 1 ∨ e.kind = 2 ∨ e.kind = 4 by simp at hc6; omega))
                have hlen := inn_len (through (es.take i)) i e
                have hnm := inn_named (through (es.take i)) i e
                rw [← hlen, ← hnm] at hS
                refine St.conv (SubL.list (by rfl)) (Sub.rfl' _) (back ((i + 1, bs, al1, lal, nal, sp, sc)) _ ?_ ?_)
                · exact ⟨by rw [hst1]; exact hS, by simp only []; omega, by rw [hst1]; exact hJ1⟩
                · simp only []; omega
              · skip
                refine St.region rfl ?_
                refine Reg.q rfl rfl rfl (q_move rfl) ?_
                refine Reg.q rfl rfl rfl (q_move rfl) ?_
                refine Reg.q rfl rfl rfl (q_move rfl) ?_
                refine Reg.q rfl rfl rfl (q_move rfl) ?_
                refine Reg.q rfl rfl rfl (q_move rfl) ?_
                refine Reg.q rfl rfl rfl (q_nil rfl) ?_
                refine Reg.q rfl rfl rfl (q_fieldAddr fo_39_1 rfl rfl) ?_
                refine Reg.q rfl rfl rfl (q_load1 ac_3 rfl (hS.ro 6 rfl _ _ hb) (row_cell hr 1 rfl)) ?_
                refine Reg.q rfl rfl rfl (q_lookup Try.underlying87 key_3 zv_90 rfl rfl (hS.map 5 rfl) (hJ.now.get e.proc)) ?_
                replace hS : Stars (_ :: _ :: _ :: _ :: _ :: _ :: _ :: rs) _ := hS.top 5 rfl
                replace hS : Stars (_ :: _ :: _ :: _ :: _ :: _ :: _ :: rs) _ := hS.top 5 rfl
                replace hS : Stars (_ :: _ :: _ :: _ :: _ :: _ :: _ :: rs) _ := hS.top 4 rfl
                replace hS : Stars (_ :: _ :: _ :: _ :: _ :: _ :: _ :: rs) _ := hS.top 4 rfl
                replace hS : Stars (_ :: _ :: _ :: _ :: _ :: _ :: _ :: rs) _ := hS.top 6 rfl
                replace hS : Stars (_ :: _ :: _ :: _ :: _ :: _ :: _ :: rs) _ := hS.top 6 rfl
                replace hS : Stars (_ :: _ :: _ :: _ :: _ :: _ :: _ :: rs) _ := hS.top 6 rfl
                refine Reg.x rfl rfl rfl (e_callF rfl rfl rfl ca_33 ((jupp_spec i _ ρ _ es _ hT hes _ _ _ _ bs _ al lal nal hJ hS e hi).mono fun v35 τ35 h35 => ?_))
                skip
                refine Reg.done ?_
                refine St.keep [72, 72, 72, 60, 48, 36, 25, 7, 6, 17, 16, 15, 5, 4, 3, 2, 0] ?_
                show St _ _ _ [(72, _), (72, _), (72, _), (60, _), (48, _), (36, _), (25, _), (7, _), (6, _), (17, _), (16, _), (15, _), (5, _), (4, _), (3, _), (2, _), (0, _)] _ _ _
                refine St.inBlock ?_
                refine St.inBlock ?_
                refine St.region rfl ?_
                refine Reg.q rfl rfl rfl (q_add rfl rfl (inc64 (by omega))) ?_
                refine Reg.q rfl rfl rfl (q_move rfl) ?_
                refine Reg.done ?_
                refine St.keep [72, 72, 72, 60, 48, 36, 25, 7, 6, 17, 16, 15, 5, 4, 3, 2, 0] ?_
                show St _ _ _ [(16, _), (72, _), (72, _), (72, _), (60, _), (48, _), (36, _), (25, _), (7, _), (6, _), (17, _), (16, _), (15, _), (5, _), (4, _), (3, _), (2, _), (0, _)] _ _ _
                obtain ⟨hS, hJ1⟩ := h35
                replace hS : Stars (_ :: _ :: _ :: _ :: _ :: _ :: _ :: rs) _ := hS.top 2 rfl
                replace hS : Stars (_ :: _ :: _ :: _ :: _ :: _ :: _ :: rs) _ := hS.top 6 rfl
                replace hS : Stars (_ :: _ :: _ :: _ :: _ :: _ :: _ :: rs) _ := hS.top 6 rfl
                replace hS : Stars (_ :: _ :: _ :: _ :: _ :: _ :: _ :: rs) _ := hS.top 4 rfl
                replace hS : Stars (_ :: _ :: _ :: _ :: _ :: _ :: _ :: rs) _ := hS.top 6 rfl
                replace hS : Stars (_ :: _ :: _ :: _ :: _ :: _ :: _ :: rs) _ := hS.top 6 rfl
                replace hS : Stars (_ :: _ :: _ :: _ :: _ :: _ :: _ :: rs) _ := hS.top 6 rfl
                have n5 : ¬ e.kind = 5 := by simpa using hc1
                have n6 : ¬ e.kind = 6 := by simpa using hc2
                have n3 : ¬ e.kind = 3 := by simpa using hc3
                have n1 : ¬ e.kind = 1 := by simpa using hc4
                have n2 : ¬ e.kind = 2 := by simpa using hc5
                have n4 : ¬ e.kind = 4 := by simpa using hc6
                have hst1 := hst.trans (step_upp n5 n6 n3 (by omega))
                have hlen := hJ1.len.symm.trans hJ.len
                rw [← hlen] at hS
                refine St.conv (SubL.list (by rfl)) (Sub.rfl' _) (back ((i + 1, bs, al, lal, nal, sp, sc)) _ ?_ ?_)
                · exact ⟨by rw [hst1]; exact hS, by simp only []; omega, by rw [hst1]; exact hJ1⟩
                · simp only []; omega
  · simp at hc0
    obtain rfl : i = es.length := by omega
    refine St.exit rfl ?_
    refine St.seq ?_
    refine St.region rfl ?_
    refine Reg.q rfl rfl rfl (q_move rfl) ?_
    refine Reg.q rfl rfl rfl (q_assign rfl) ?_
    refine Reg.done ?_
    refine St.keep [17, 16, 15, 5, 4, 3, 2, 0] ?_
    show St _ _ _ [(2, _), (17, _), (16, _), (15, _), (5, _), (4, _), (3, _), (2, _), (0, _)] _ _ _
    refine St.ret Try.func18 (.tmp rfl .nil) (Sub.rfl' _) ?_
    rw [List.take_length] at hS hJ
    replace hS : Stars (_ :: _ :: _ :: _ :: _ :: _ :: _ :: rs) _ := hS.top 5 rfl
    replace hS : Stars (_ :: _ :: _ :: _ :: _ :: _ :: _ :: rs) _ := hS.top 5 rfl
    replace hS := hS.drop.drop
    exact ⟨_, _, _, _, _, _, _, _, rfl, hS, hJ⟩
end Go.Proofs.Ytdgdbnkhmdncdaa
