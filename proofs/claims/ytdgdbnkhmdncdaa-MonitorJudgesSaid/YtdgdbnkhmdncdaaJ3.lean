/- The judge: EvSend, EvDeliver, EvTrans. -/
import Derived.Test.YtdgdbnkhmdncdaaJ1
import Derived.Test.YtdgdbnkhmdncdaaJl
set_option linter.unusedSectionVars false
set_option linter.unusedSimpArgs false
set_option linter.unusedVariables false
namespace Go.Proofs.Ytdgdbnkhmdncdaa
open Go.Gw Go.Cs
variable [Env]
set_option maxHeartbeats 4000000
namespace FJ3
theorem ac_3 : aggCells Try.prog 3 = some none := by kernel_rfl
theorem ac_30 : aggCells Try.prog 30 = some (some 2) := by kernel_rfl
theorem ac_34 : aggCells Try.prog 34 = some (some 6) := by kernel_rfl
theorem ac_63 : aggCells Try.prog 63 = some none := by kernel_rfl
theorem ac_99 : aggCells Try.prog 99 = some none := by kernel_rfl
theorem ca_35 : callable Try.prog 35 = true := by kernel_rfl
theorem eg_30 : Try.prog.eqGuardType Try.prog.depth 30 = false := by kernel_rfl
theorem fo_101_1 : fieldOff Try.prog 101 1 = some 1 := by kernel_rfl
theorem fo_101_3 : fieldOff Try.prog 101 3 = some 4 := by kernel_rfl
theorem fo_101_4 : fieldOff Try.prog 101 4 = some 5 := by kernel_rfl
theorem fo_39_0 : fieldOff Try.prog 39 0 = some 0 := by kernel_rfl
theorem fo_39_2 : fieldOff Try.prog 39 2 = some 2 := by kernel_rfl
theorem fo_39_3 : fieldOff Try.prog 39 3 = some 4 := by kernel_rfl
theorem fo_39_5 : fieldOff Try.prog 39 5 = some 7 := by kernel_rfl
theorem pl_103 : places Try.prog 103 = some #[(0, 1), (1, 6), (7, 1)] := by kernel_rfl
theorem pl_30 : places Try.prog 30 = some #[(0, 1), (1, 1)] := by kernel_rfl
theorem sb_103 : sizeBytes Try.prog 103 = some (8, 88) := by kernel_rfl
theorem so_99 : sliceOf Try.prog 99 = some (103, 8) := by kernel_rfl
theorem sz_30 : szOf Try.prog 30 = some 2 := by kernel_rfl
theorem sz_63 : szOf Try.prog 63 = some 1 := by kernel_rfl
theorem sz_99 : szOf Try.prog 99 = some 1 := by kernel_rfl
theorem zo_103 : zeroOf Try.prog 103 = some #[.int .i64 0, .int .i64 0, .int .u32 0, .int .u64 0, .int .i64 0, .slice none 0 0, .string ⟨#[]⟩, .bool false] := by kernel_rfl
theorem zo_30 : zeroOf Try.prog 30 = some #[.int .u64 0, .int .i64 0] := by kernel_rfl
theorem zr_103_1 : zrow #[.int .i64 0, .int .i64 0, .int .u32 0, .int .u64 0, .int .i64 0, .slice none 0 0, .string ⟨#[]⟩, .bool false] (1 * 8) = #[.int .i64 0, .int .i64 0, .int .u32 0, .int .u64 0, .int .i64 0, .slice none 0 0, .string ⟨#[]⟩, .bool false] := by kernel_rfl
end FJ3
open FJ3

theorem jinn_none (i : Nat) (σ ρ : Heap) (rs : List Asr) (es : List Ev) (p : Option Addr) (hT : TraceIs ρ p es) (hes : es.length ≤ 100000) (tb mb : Nat) (v0 v1 v3 : Value) (bs : List Nat) (J : JTr) (al lal nal : List (Int × Value)) (hJ : JIs es bs J al lal nal i) (hS : Stars (pt tb (.cells #[v0, v1, .map (some mb), v3] 70 (0, 0)) :: mapA encI mb al :: staysA p bs J.stays :: ro ρ :: rs) σ) (e : Ev) (hi : es[i]? = some e) (hn : J.now e.proc = none) : Does Try.prog 32 #[.pointer (some ⟨tb, 0, none⟩), .int .i64 (i : Nat), evp p (some (i, e)), .bool (J.live e.proc), .pointer none] σ (fun v τ => ∃ al', Stars (pt tb (.cells #[v0, v1, .map (some mb), v3] 70 (0, 0)) :: mapA encI mb al' :: staysA p bs (J.inn i e).stays :: ro ρ :: rs) τ ∧ JIs es bs (J.inn i e) al' lal nal (i + 1)) := by
  refine Does.enter (n := 99) (l := [(0, _), (1, _), (2, _), (3, _), (4, _)]) Try.func32 rfl rfl (by simp) rfl ?_
  obtain ⟨lb, lo, cs, TT, fz, rfl, hb, hlt, hr⟩ := hT.row hi
  refine St.seq ?_
  refine St.seq ?_
  refine St.draw0 [] [(0, .w), (1, .w), (2, .w), (3, .w), (4, .w), (5, .w), (6, .w), (7, .w), (8, .w), (9, .w), (10, .r), (11, .w), (12, .w), (13, .w), (14, .r), (15, .w), (16, .w)] mixed (by kernel_rfl) rfl ?_
  refine Dr.w rfl rfl rfl rfl (q_move rfl) ?_
  refine Dr.w rfl rfl rfl rfl (q_not rfl) ?_
  refine Dr.w rfl rfl rfl rfl (q_move rfl) ?_
  refine Dr.split (d := 13) rfl (fun hg13 => ?_) (fun hg13 => ?_)
  · skip
    refine Dr.skip rfl rfl rfl rfl ?_
    refine Dr.skip rfl rfl rfl rfl ?_
    refine Dr.w rfl rfl rfl rfl (q_pickT rfl rfl) ?_
    refine Dr.w rfl rfl rfl rfl (q_move rfl) ?_
    refine Dr.skip rfl rfl rfl rfl ?_
    refine Dr.skip rfl rfl rfl rfl ?_
    refine Dr.skip rfl rfl rfl rfl ?_
    refine Dr.skip rfl rfl rfl rfl ?_
    refine Dr.skip rfl rfl rfl rfl ?_
    refine Dr.skip rfl rfl rfl rfl ?_
    refine Dr.skip rfl rfl rfl rfl ?_
    refine Dr.skip rfl rfl rfl rfl ?_
    refine Dr.skip rfl rfl rfl rfl ?_
    refine Dr.w rfl rfl rfl rfl (q_pickT rfl rfl) ?_
    refine Dr.done ?_
    refine St.keep [0, 1, 2, 3, 4, 27] ?_
    show St _ _ _ [(27, _), (0, _), (1, _), (2, _), (3, _), (4, _)] _ _ _
    refine St.condT rfl ?_
    refine St.seq ?_
    refine St.region rfl ?_
    refine Reg.q rfl rfl rfl (q_move rfl) ?_
    refine Reg.x rfl rfl rfl (e_callF rfl rfl rfl ca_35 ((jbreaks_spec _ _ _ _ _ _ _ _ hS _ _).mono fun v29 τ29 h29 => ?_))
    replace hS := h29
    refine Reg.done ?_
    refine St.keep [27, 0, 1, 2, 3, 4] ?_
    show St _ _ _ [(27, _), (0, _), (1, _), (2, _), (3, _), (4, _)] _ _ _
    refine St.ret Try.func32 .nil (Sub.rfl' _) ?_
    rw [inn_none hn]
    exact ⟨_, hS, (hJ.brk 1 true).more⟩
  · skip
    refine Dr.w rfl rfl rfl rfl (q_move rfl) ?_
    refine Dr.w rfl rfl rfl rfl (q_peqn Try.underlying90 rfl rfl) ?_
    refine Dr.w rfl rfl rfl rfl (q_pickF rfl rfl) ?_
    refine Dr.w rfl rfl rfl rfl (q_move rfl) ?_
    refine Dr.split (d := 17) rfl (fun hg17 => ?_) (fun hg17 => ?_)
    · skip
      refine Dr.skip rfl rfl rfl rfl ?_
      refine Dr.skip rfl rfl rfl rfl ?_
      refine Dr.skip rfl rfl rfl rfl ?_
      refine Dr.skip rfl rfl rfl rfl ?_
      refine Dr.skip rfl rfl rfl rfl ?_
      refine Dr.skip rfl rfl rfl rfl ?_
      refine Dr.skip rfl rfl rfl rfl ?_
      refine Dr.skip rfl rfl rfl rfl ?_
      refine Dr.skip rfl rfl rfl rfl ?_
      refine Dr.w rfl rfl rfl rfl (q_pickT rfl rfl) ?_
      refine Dr.done ?_
      refine St.keep [0, 1, 2, 3, 4, 27] ?_
      show St _ _ _ [(27, _), (0, _), (1, _), (2, _), (3, _), (4, _)] _ _ _
      refine St.condT rfl ?_
      refine St.seq ?_
      refine St.region rfl ?_
      refine Reg.q rfl rfl rfl (q_move rfl) ?_
      refine Reg.x rfl rfl rfl (e_callF rfl rfl rfl ca_35 ((jbreaks_spec _ _ _ _ _ _ _ _ hS _ _).mono fun v29 τ29 h29 => ?_))
      replace hS := h29
      refine Reg.done ?_
      refine St.keep [27, 0, 1, 2, 3, 4] ?_
      show St _ _ _ [(27, _), (0, _), (1, _), (2, _), (3, _), (4, _)] _ _ _
      refine St.ret Try.func32 .nil (Sub.rfl' _) ?_
      rw [inn_none hn]
      exact ⟨_, hS, (hJ.brk 1 true).more⟩
    · exact absurd hg17 (by simp) -- PRUNE

theorem jinn_some (i : Nat) (σ ρ : Heap) (rs : List Asr) (es : List Ev) (p : Option Addr) (hT : TraceIs ρ p es) (hes : es.length ≤ 100000) (tb mb : Nat) (v0 v1 v3 : Value) (bs : List Nat) (J : JTr) (al lal nal : List (Int × Value)) (hJ : JIs es bs J al lal nal i) (hS : Stars (pt tb (.cells #[v0, v1, .map (some mb), v3] 70 (0, 0)) :: mapA encI mb al :: staysA p bs J.stays :: ro ρ :: rs) σ) (e : Ev) (hi : es[i]? = some e) (k bk : Nat) (s : JSt) (hn : J.now e.proc = some k) (hbk : bs[k]? = some bk) (hs : J.stays[k]? = some s) : Does Try.prog 32 #[.pointer (some ⟨tb, 0, none⟩), .int .i64 (i : Nat), evp p (some (i, e)), .bool (J.live e.proc), .pointer (some ⟨bk, 0, none⟩)] σ (fun v τ => ∃ al', Stars (pt tb (.cells #[v0, v1, .map (some mb), v3] 70 (0, 0)) :: mapA encI mb al' :: staysA p bs (J.inn i e).stays :: ro ρ :: rs) τ ∧ JIs es bs (J.inn i e) al' lal nal (i + 1)) := by
  refine Does.enter (n := 99) (l := [(0, _), (1, _), (2, _), (3, _), (4, _)]) Try.func32 rfl rfl (by simp) rfl ?_
  obtain ⟨lb, lo, cs, TT, fz, rfl, hb, hlt, hr⟩ := hT.row hi
  have hklt : k < J.stays.length := (List.getElem?_eq_some_iff.1 hs).1
  have hwf := hJ.wf s (List.mem_of_getElem? hs)
  have hfew := hJ.few.2 s (List.mem_of_getElem? hs)
  obtain ⟨s0, s1, s2, s3, s4, s5, s6, s7, s8, s9, s10, s11⟩ := s
  change s3.length ≤ i ∧ s9.length ≤ i at hfew
  replace hS : Stars (_ :: _ :: _ :: _ :: rs) _ := hS.top 2 rfl
  obtain ⟨gp, gc, up, uc, hS'⟩ := stays_open hS hbk hs
  simp only [stayC] at hS'
  replace hS := hS'
  refine St.seq ?_
  refine St.seq ?_
  refine St.draw0 [] [(0, .w), (1, .w), (2, .w), (3, .w), (4, .w), (5, .w), (6, .w), (7, .w), (8, .w), (9, .w), (10, .r), (11, .w), (12, .w), (13, .w), (14, .r), (15, .w), (16, .w)] mixed (by kernel_rfl) rfl ?_
  refine Dr.w rfl rfl rfl rfl (q_move rfl) ?_
  refine Dr.w rfl rfl rfl rfl (q_not rfl) ?_
  refine Dr.w rfl rfl rfl rfl (q_move rfl) ?_
  refine Dr.joinv 27 (.bool (!J.live e.proc || s1 != e.conf)) 14 [0, 1, 2, 3, 4, 11, 12] (fun hk0_16 => ?_) ?_
  · skip
    refine Dr.split (d := 13) rfl (fun hg13 => ?_) (fun hg13 => ?_)
    · skip
      refine Dr.skip rfl rfl rfl rfl ?_
      refine Dr.skip rfl rfl rfl rfl ?_
      refine Dr.w rfl rfl rfl rfl (q_pickT rfl rfl) ?_
      refine Dr.w rfl rfl rfl rfl (q_move rfl) ?_
      refine Dr.skip rfl rfl rfl rfl ?_
      refine Dr.skip rfl rfl rfl rfl ?_
      refine Dr.skip rfl rfl rfl rfl ?_
      refine Dr.skip rfl rfl rfl rfl ?_
      refine Dr.skip rfl rfl rfl rfl ?_
      refine Dr.skip rfl rfl rfl rfl ?_
      refine Dr.skip rfl rfl rfl rfl ?_
      refine Dr.skip rfl rfl rfl rfl ?_
      refine Dr.skip rfl rfl rfl rfl ?_
      refine Dr.w rfl rfl rfl rfl (q_pickT rfl rfl) ?_
      exact Dr.meet 15 [0, 1, 2, 3, 4, 11, 12] hk0_16 rfl (by simp only [hg13, bne, Bool.true_or, Bool.false_or]) rfl rfl
    · skip
      refine Dr.w rfl rfl rfl rfl (q_move rfl) ?_
      refine Dr.w rfl rfl rfl rfl (q_peqn Try.underlying90 rfl rfl) ?_
      refine Dr.w rfl rfl rfl rfl (q_pickF rfl rfl) ?_
      refine Dr.w rfl rfl rfl rfl (q_move rfl) ?_
      refine Dr.split (d := 17) rfl (fun hg17 => ?_) (fun hg17 => ?_)
      · exact absurd hg17 (by simp) -- PRUNE
      · skip
        refine Dr.w rfl rfl rfl rfl (q_move rfl) ?_
        refine Dr.w rfl rfl rfl rfl (q_nil rfl) ?_
        refine Dr.w rfl rfl rfl rfl (q_fieldAddr fo_101_1 rfl rfl) ?_
        refine Dr.r rfl rfl rfl rfl (Sub.rfl' _) (q_loadA ac_30 rfl (hS.pt 0 rfl) (rowN_row rfl)) ?_
        refine Dr.w rfl rfl rfl rfl (q_move rfl) ?_
        refine Dr.w rfl rfl rfl rfl (q_nil rfl) ?_
        refine Dr.w rfl rfl rfl rfl (q_fieldAddr fo_39_2 rfl rfl) ?_
        refine Dr.r rfl rfl rfl rfl (Sub.rfl' _) (q_loadA ac_30 rfl (hS.ro 6 rfl _ _ hb) (row_partN hr 2 2 (by decide) rfl rfl)) ?_
        refine Dr.w rfl rfl rfl rfl (q_ane rfl rfl eg_30 (eq_30 s1 e.conf)) ?_
        refine Dr.w rfl rfl rfl rfl (q_pickF rfl rfl) ?_
        exact Dr.meet 16 [0, 1, 2, 3, 4, 11, 12] hk0_16 rfl (by simp only [hg13, hg17, bne, Bool.true_or, Bool.false_or]) rfl rfl
  · skip
    refine Dr.done ?_
    refine St.keep [0, 1, 2, 3, 4, 27] ?_
    show St _ _ _ [(27, _), (0, _), (1, _), (2, _), (3, _), (4, _)] _ _ _
    refine St.cond rfl (fun hc0 => ?_) (fun hc0 => ?_)
    · skip
      refine St.seq ?_
      refine St.region rfl ?_
      refine Reg.q rfl rfl rfl (q_move rfl) ?_
      replace hS : Stars (_ :: _ :: _ :: _ :: _ :: _ :: _ :: rs) _ := hS.top 5 rfl
      replace hS : Stars (_ :: _ :: _ :: _ :: _ :: _ :: _ :: rs) _ := hS.top 5 rfl
      refine Reg.x rfl rfl rfl (e_callF rfl rfl rfl ca_35 ((jbreaks_spec _ _ _ _ _ _ _ _ hS _ _).mono fun v29 τ29 h29 => ?_))
      replace hS := h29
      refine Reg.done ?_
      refine St.keep [27, 0, 1, 2, 3, 4] ?_
      show St _ _ _ [(27, _), (0, _), (1, _), (2, _), (3, _), (4, _)] _ _ _
      refine St.ret Try.func32 .nil (Sub.rfl' _) ?_
      replace hS : Stars (_ :: _ :: _ :: _ :: _ :: _ :: _ :: rs) _ := hS.top 5 rfl
      replace hS : Stars (_ :: _ :: _ :: _ :: _ :: _ :: _ :: rs) _ := hS.top 5 rfl
      replace hS : Stars (_ :: _ :: _ :: _ :: _ :: _ :: _ :: rs) _ := hS.top 5 rfl
      replace hS : Stars (_ :: _ :: _ :: _ :: _ :: _ :: _ :: rs) _ := hS.top 5 rfl
      replace hS := stays_close (s := ⟨s0, s1, s2, s3, s4, s5, s6, s7, s8, s9, s10, s11⟩) hS hbk hklt
      replace hS : Stars (_ :: _ :: _ :: _ :: rs) _ := hS.top 3 rfl
      replace hS : Stars (_ :: _ :: _ :: _ :: rs) _ := hS.top 1 rfl
      replace hS : Stars (_ :: _ :: _ :: _ :: rs) _ := hS.top 3 rfl
      replace hS : Stars (_ :: _ :: _ :: _ :: rs) _ := hS.top 3 rfl
      rw [set_same hs] at hS
      rw [inn_bad hn hs hc0]
      exact ⟨_, hS, (hJ.brk 1 true).more⟩
    · skip
      refine St.skip ?_
      refine St.seq ?_
      refine St.region rfl ?_
      refine Reg.q rfl rfl rfl (q_move rfl) ?_
      refine Reg.q rfl rfl rfl (q_nil rfl) ?_
      refine Reg.q rfl rfl rfl (q_fieldAddr fo_39_0 rfl rfl) ?_
      refine Reg.q rfl rfl rfl (q_load1 ac_3 rfl (hS.ro 6 rfl _ _ hb) (row_cell hr 0 rfl)) ?_
      refine Reg.done ?_
      refine St.keep [27, 0, 1, 2, 3, 4, 33] ?_
      show St _ _ _ [(33, _), (27, _), (0, _), (1, _), (2, _), (3, _), (4, _)] _ _ _
      refine St.block ?_
      refine St.seq ?_
      refine St.region rfl ?_
      refine Reg.q rfl rfl rfl (q_ieq rfl rfl) ?_
      refine Reg.q rfl rfl rfl (q_assign rfl) ?_
      refine Reg.done ?_
      refine St.keep [33, 27, 0, 1, 2, 3, 4, 34] ?_
      show St _ _ _ [(34, _), (33, _), (27, _), (0, _), (1, _), (2, _), (3, _), (4, _)] _ _ _
      refine St.cond rfl (fun hc1 => ?_) (fun hc1 => ?_)
      · skip
        refine St.region rfl ?_
        refine Reg.q rfl rfl rfl (q_move rfl) ?_
        refine Reg.q rfl rfl rfl (q_move rfl) ?_
        refine Reg.q rfl rfl rfl (q_nil rfl) ?_
        refine Reg.q rfl rfl rfl (q_fieldAddr fo_101_4 rfl rfl) ?_
        refine Reg.q rfl rfl rfl (q_load1 ac_63 rfl (hS.pt 0 rfl) rfl) ?_
        refine Reg.q rfl rfl rfl (QOp.eq (v' := .bool s4.isSome) (q_pnen Try.underlying63 rfl rfl) (by cases s4 <;> rfl)) ?_
        replace hS : Stars (_ :: _ :: _ :: _ :: _ :: _ :: _ :: rs) _ := hS.top 5 rfl
        replace hS : Stars (_ :: _ :: _ :: _ :: _ :: _ :: _ :: rs) _ := hS.top 5 rfl
        refine Reg.x rfl rfl rfl (e_callF rfl rfl rfl ca_35 ((jbreaks_spec _ _ _ _ _ _ _ _ hS _ _).mono fun v42 τ42 h42 => ?_))
        replace hS := h42
        refine Reg.done ?_
        refine St.keep [34, 33, 27, 0, 1, 2, 3, 4] ?_
        show St _ _ _ [(34, _), (33, _), (27, _), (0, _), (1, _), (2, _), (3, _), (4, _)] _ _ _
        refine St.inBlock ?_
        refine St.fin Try.func32 .nil (Sub.rfl' _) ?_
        replace hS : Stars (_ :: _ :: _ :: _ :: _ :: _ :: _ :: rs) _ := hS.top 5 rfl
        replace hS : Stars (_ :: _ :: _ :: _ :: _ :: _ :: _ :: rs) _ := hS.top 5 rfl
        replace hS : Stars (_ :: _ :: _ :: _ :: _ :: _ :: _ :: rs) _ := hS.top 5 rfl
        replace hS : Stars (_ :: _ :: _ :: _ :: _ :: _ :: _ :: rs) _ := hS.top 5 rfl
        replace hS := stays_close (s := ⟨s0, s1, s2, s3, s4, s5, s6, s7, s8, s9, s10, s11⟩) hS hbk hklt
        replace hS : Stars (_ :: _ :: _ :: _ :: rs) _ := hS.top 3 rfl
        replace hS : Stars (_ :: _ :: _ :: _ :: rs) _ := hS.top 1 rfl
        replace hS : Stars (_ :: _ :: _ :: _ :: rs) _ := hS.top 3 rfl
        replace hS : Stars (_ :: _ :: _ :: _ :: rs) _ := hS.top 3 rfl
        rw [set_same hs] at hS
        rw [inn_some hn hs hc0, if_pos (by simpa using hc1)]
        exact ⟨_, hS, (hJ.brk 1 s4.isSome).more⟩
      · skip
        refine St.seq ?_
        refine St.region rfl ?_
        refine Reg.q rfl rfl rfl (q_ieq rfl rfl) ?_
        refine Reg.q rfl rfl rfl (q_assign rfl) ?_
        refine Reg.done ?_
        refine St.keep [34, 33, 27, 0, 1, 2, 3, 4, 43] ?_
        show St _ _ _ [(43, _), (34, _), (33, _), (27, _), (0, _), (1, _), (2, _), (3, _), (4, _)] _ _ _
        refine St.cond rfl (fun hc2 => ?_) (fun hc2 => ?_)
        · skip
          refine St.seq ?_
          refine St.region rfl ?_
          refine Reg.q rfl rfl rfl (q_move rfl) ?_
          refine Reg.q rfl rfl rfl (q_move rfl) ?_
          refine Reg.q rfl rfl rfl (q_nil rfl) ?_
          refine Reg.q rfl rfl rfl (q_fieldAddr fo_101_4 rfl rfl) ?_
          refine Reg.q rfl rfl rfl (q_load1 ac_63 rfl (hS.pt 0 rfl) rfl) ?_
          refine Reg.q rfl rfl rfl (QOp.eq (v' := .bool s4.isSome) (q_pnen Try.underlying63 rfl rfl) (by cases s4 <;> rfl)) ?_
          replace hS : Stars (_ :: _ :: _ :: _ :: _ :: _ :: _ :: rs) _ := hS.top 5 rfl
          replace hS : Stars (_ :: _ :: _ :: _ :: _ :: _ :: _ :: rs) _ := hS.top 5 rfl
          refine Reg.x rfl rfl rfl (e_callF rfl rfl rfl ca_35 ((jbreaks_spec _ _ _ _ _ _ _ _ hS _ _).mono fun v51 τ51 h51 => ?_))
          replace hS := h51
          refine Reg.done ?_
          refine St.keep [43, 34, 33, 27, 0, 1, 2, 3, 4] ?_
          show St _ _ _ [(43, _), (34, _), (33, _), (27, _), (0, _), (1, _), (2, _), (3, _), (4, _)] _ _ _
          refine St.region rfl ?_
          refine Reg.q rfl rfl rfl (q_move rfl) ?_
          refine Reg.q rfl rfl rfl (q_move rfl) ?_
          refine Reg.q rfl rfl rfl (q_nil rfl) ?_
          refine Reg.q rfl rfl rfl (q_fieldAddr fo_101_4 rfl rfl) ?_
          refine Reg.no rfl rfl (e_store rfl rfl sz_63 rfl (hS.pt 2 rfl) (Nat.le_of_ble_eq_true rfl) rfl (storeN_row rfl) (fun τs7_4 hs7_4 hu7_4 => ?_))
          replace hS : Stars (_ :: _ :: _ :: _ :: _ :: _ :: _ :: rs) _ := (hS.top 2 rfl).ptU hu7_4 hs7_4
          refine Reg.done ?_
          refine St.keep [43, 34, 33, 27, 0, 1, 2, 3, 4] ?_
          show St _ _ _ [(43, _), (34, _), (33, _), (27, _), (0, _), (1, _), (2, _), (3, _), (4, _)] _ _ _
          refine St.inBlock ?_
          refine St.fin Try.func32 .nil (Sub.rfl' _) ?_
          replace hS : Stars (_ :: _ :: _ :: _ :: _ :: _ :: _ :: rs) _ := hS.top 5 rfl
          replace hS : Stars (_ :: _ :: _ :: _ :: _ :: _ :: _ :: rs) _ := hS.top 5 rfl
          replace hS : Stars (_ :: _ :: _ :: _ :: _ :: _ :: _ :: rs) _ := hS.top 5 rfl
          replace hS : Stars (_ :: _ :: _ :: _ :: _ :: _ :: _ :: rs) _ := hS.top 3 rfl
          replace hS := stays_close (s := ⟨s0, s1, s2, s3, some (i, e), s5, s6, s7, s8, s9, s10, s11⟩) hS hbk hklt
          replace hS : Stars (_ :: _ :: _ :: _ :: rs) _ := hS.top 3 rfl
          replace hS : Stars (_ :: _ :: _ :: _ :: rs) _ := hS.top 1 rfl
          replace hS : Stars (_ :: _ :: _ :: _ :: rs) _ := hS.top 3 rfl
          replace hS : Stars (_ :: _ :: _ :: _ :: rs) _ := hS.top 3 rfl
          have h1 : ¬ e.kind = 1 := by simpa using hc1
          rw [inn_some hn hs hc0, if_neg h1, if_pos (by simpa using hc2)]
          refine ⟨_, ?_, (hJ.brk 1 s4.isSome).mod fun s' hs' => ?_⟩
          · rw [mod_some (J := J.brk 1 s4.isSome) hs]; exact hS
          · have : s' = ⟨s0, s1, s2, s3, s4, s5, s6, s7, s8, s9, s10, s11⟩ := Option.some.inj (hs'.symm.trans hs)
            subst this
            exact ⟨⟨fun j x hj => by simp only [Option.some.injEq, Prod.mk.injEq] at hj; obtain ⟨rfl, rfl⟩ := hj; exact hi, hwf.next, hwf.view, hwf.ready, hwf.gots, hwf.ups, hwf.before, fun _ _ _ => rfl⟩, by simp only []; omega, by simp only []; omega⟩
        · skip
          refine St.seq ?_
          refine St.region rfl ?_
          refine Reg.q rfl rfl rfl (q_ieq rfl rfl) ?_
          refine Reg.q rfl rfl rfl (q_assign rfl) ?_
          refine Reg.done ?_
          refine St.keep [43, 34, 33, 27, 0, 1, 2, 3, 4, 56] ?_
          show St _ _ _ [(56, _), (43, _), (34, _), (33, _), (27, _), (0, _), (1, _), (2, _), (3, _), (4, _)] _ _ _
          refine St.cond rfl (fun hc3 => ?_) (fun hc3 => ?_)
          · skip
            refine St.seq ?_
            refine St.region rfl ?_
            refine Reg.q rfl rfl rfl (q_build rfl zo_30 pl_30 (fillN_fill rfl)) ?_
            refine Reg.x rfl rfl rfl (e_alloc zo_30 (fun b10 τ10 hb10 => ?_))
            replace hS : Stars (_ :: _ :: _ :: _ :: _ :: _ :: _ :: _ :: rs) _ := hS.fresh hb10
            refine Reg.no rfl rfl (e_store rfl rfl sz_30 rfl (hS.pt 0 rfl) (Nat.le_of_ble_eq_true rfl) rfl (storeN_row rfl) (fun τs9_2 hs9_2 hu9_2 => ?_))
            replace hS : Stars (_ :: _ :: _ :: _ :: _ :: _ :: _ :: _ :: rs) _ := (hS.top 0 rfl).ptU hu9_2 hs9_2
            refine Reg.done ?_
            refine St.keep [56, 43, 34, 33, 27, 0, 1, 2, 3, 4, 10] ?_
            show St _ _ _ [(10, _), (56, _), (43, _), (34, _), (33, _), (27, _), (0, _), (1, _), (2, _), (3, _), (4, _)] _ _ _
            refine St.seq ?_
            refine St.seq ?_
            refine St.region rfl ?_
            refine Reg.q rfl rfl rfl (q_move rfl) ?_
            refine Reg.q rfl rfl rfl (q_nil rfl) ?_
            refine Reg.q rfl rfl rfl (q_fieldAddr fo_101_4 rfl rfl) ?_
            refine Reg.q rfl rfl rfl (q_load1 ac_63 rfl (hS.pt 1 rfl) rfl) ?_
            refine Reg.q rfl rfl rfl (q_pnen Try.underlying63 rfl rfl) ?_
            refine Reg.done ?_
            refine St.keep [10, 56, 43, 34, 33, 27, 0, 1, 2, 3, 4, 63] ?_
            show St _ _ _ [(63, _), (10, _), (56, _), (43, _), (34, _), (33, _), (27, _), (0, _), (1, _), (2, _), (3, _), (4, _)] _ _ _
            refine St.cond rfl (fun hc4 => ?_) (fun hc4 => ?_)
            · obtain ⟨⟨jx, x⟩, rfl⟩ : ∃ r, s4 = some r := by cases s4 with | none => simp [Cs.evp] at hc4 | some r => exact ⟨r, rfl⟩
              obtain ⟨lb2, lo2, cs2, T2, f2, hp2, hb2, hlt2, hr2⟩ := hT.row (hwf.trans _ _ rfl)
              cases hp2
              refine St.region rfl ?_
              refine Reg.q rfl rfl rfl (q_move rfl) ?_
              refine Reg.q rfl rfl rfl (q_nil rfl) ?_
              refine Reg.q rfl rfl rfl (q_fieldAddr fo_101_4 rfl rfl) ?_
              refine Reg.q rfl rfl rfl (q_load1 ac_63 rfl (hS.pt 1 rfl) rfl) ?_
              refine Reg.q rfl rfl rfl (q_nil rfl) ?_
              refine Reg.q rfl rfl rfl (q_fieldAddr fo_39_3 rfl rfl) ?_
              refine Reg.q rfl rfl rfl (q_loadA ac_30 rfl (hS.ro 7 rfl _ _ hb2) (row_partN hr2 4 2 (by decide) rfl rfl)) ?_
              refine Reg.no rfl rfl (e_store rfl rfl sz_30 rfl (hS.pt 0 rfl) (Nat.le_of_ble_eq_true rfl) rfl (storeN_row rfl) (fun τs11_7 hs11_7 hu11_7 => ?_))
              replace hS : Stars (_ :: _ :: _ :: _ :: _ :: _ :: _ :: _ :: rs) _ := (hS.top 0 rfl).ptU hu11_7 hs11_7
              refine Reg.done ?_
              refine St.keep [63, 10, 56, 43, 34, 33, 27, 0, 1, 2, 3, 4] ?_
              show St _ _ _ [(63, _), (10, _), (56, _), (43, _), (34, _), (33, _), (27, _), (0, _), (1, _), (2, _), (3, _), (4, _)] _ _ _
              refine St.seq ?_
              refine St.draw0 [7] [(0, .w), (1, .w), (2, .w), (3, .w), (4, .r), (5, .r), (6, .w), (7, .x)] mixed (by kernel_rfl) rfl ?_
              refine Dr.w rfl rfl rfl rfl (q_move rfl) ?_
              refine Dr.w rfl rfl rfl rfl (q_move rfl) ?_
              refine Dr.w rfl rfl rfl rfl (q_nil rfl) ?_
              refine Dr.w rfl rfl rfl rfl (q_fieldAddr fo_39_3 rfl rfl) ?_
              refine Dr.r rfl rfl rfl rfl (Sub.rfl' _) (q_loadA ac_30 rfl (hS.ro 7 rfl _ _ hb) (row_partN hr 4 2 (by decide) rfl rfl)) ?_
              refine Dr.r rfl rfl rfl rfl (Sub.rfl' _) (q_loadA ac_30 rfl (hS.pt 0 rfl) (rowN_row rfl)) ?_
              refine Dr.w rfl rfl rfl rfl (q_ane rfl rfl eg_30 (eq_30 e.new x.new)) ?_
              replace hS : Stars (_ :: _ :: _ :: _ :: _ :: _ :: _ :: _ :: rs) _ := hS.top 6 rfl
              replace hS : Stars (_ :: _ :: _ :: _ :: _ :: _ :: _ :: _ :: rs) _ := hS.top 6 rfl
              refine Dr.x rfl rfl rfl rfl (e_callF rfl rfl rfl ca_35 ((jbreaks_spec _ _ _ _ _ _ _ _ hS _ _).mono fun v78 τ78 h78 => ?_))
              replace hS := h78
              refine ⟨.inl rfl, ?_⟩
              refine Dr.done ?_
              refine St.keep [63, 10, 56, 43, 34, 33, 27, 0, 1, 2, 3, 4] ?_
              show St _ _ _ [(63, _), (10, _), (56, _), (43, _), (34, _), (33, _), (27, _), (0, _), (1, _), (2, _), (3, _), (4, _)] _ _ _
              refine St.draw0 [17, 20] [(0, .w), (1, .w), (2, .w), (3, .w), (4, .r), (5, .w), (6, .w), (7, .w), (8, .w), (9, .r), (10, .w), (11, .w), (12, .w), (13, .r), (14, .w), (15, .w), (16, .x), (17, .x), (18, .w), (19, .w), (20, .x)] mixed (by kernel_rfl) rfl ?_
              refine Dr.w rfl rfl rfl rfl (q_move rfl) ?_
              refine Dr.w rfl rfl rfl rfl (q_move rfl) ?_
              refine Dr.w rfl rfl rfl rfl (q_nil rfl) ?_
              refine Dr.w rfl rfl rfl rfl (q_fieldAddr fo_101_3 rfl rfl) ?_
              refine Dr.r rfl rfl rfl rfl (Sub.rfl' _) (q_load1 ac_99 rfl (hS.pt 3 rfl) rfl) ?_
              refine Dr.w rfl rfl rfl rfl (q_move rfl) ?_
              refine Dr.w rfl rfl rfl rfl (q_move rfl) ?_
              refine Dr.w rfl rfl rfl rfl (q_nil rfl) ?_
              refine Dr.w rfl rfl rfl rfl (q_fieldAddr fo_39_5 rfl rfl) ?_
              refine Dr.r rfl rfl rfl rfl (Sub.rfl' _) (q_loadA ac_34 rfl (hS.ro 7 rfl _ _ hb) (row_partN hr 7 6 (by decide) rfl rfl)) ?_
              refine Dr.w rfl rfl rfl rfl (q_move rfl) ?_
              refine Dr.w rfl rfl rfl rfl (q_nil rfl) ?_
              refine Dr.w rfl rfl rfl rfl (q_fieldAddr fo_101_4 rfl rfl) ?_
              refine Dr.r rfl rfl rfl rfl (Sub.rfl' _) (q_load1 ac_63 rfl (hS.pt 3 rfl) rfl) ?_
              refine Dr.w rfl rfl rfl rfl (q_pnen Try.underlying63 rfl rfl) ?_
              refine Dr.w rfl rfl rfl rfl (q_build rfl zo_103 pl_103 (fillN_fill rfl)) ?_
              refine Dr.x rfl rfl rfl rfl (e_buildSlice so_99 zo_103 zr_103_1 rfl rfl rfl (fillN_fill rfl) (fun b95 τ95 hb95 => ⟨.inr hb95.sub, ?_⟩))
              replace hS : Stars (_ :: _ :: _ :: _ :: _ :: _ :: _ :: _ :: _ :: rs) _ := hS.fresh hb95
              refine Dr.x rfl rfl rfl rfl (e_append rfl Try.underlying99 Try.underlying99 sb_103 zo_103 rfl rfl rfl (hS.own 5 rfl) (Rd.lit (hS.pt 0 rfl) rfl) (.inl (by omega)) (allFlat_mem rfl) (by omega) (by omega) (fun b96 o96 c96 τ96 hf96 hu96 ho96 => ⟨.inl rfl, ?_⟩))
              replace hS : Stars (_ :: _ :: _ :: _ :: _ :: _ :: _ :: _ :: _ :: rs) _ := (hS.top 5 rfl).ownU hf96 hu96 ho96
              refine Dr.w rfl rfl rfl rfl (q_nil rfl) ?_
              refine Dr.w rfl rfl rfl rfl (q_fieldAddr fo_101_3 rfl rfl) ?_
              refine Dr.no rfl rfl rfl (e_store rfl rfl sz_99 rfl (hS.pt 5 rfl) (Nat.le_of_ble_eq_true rfl) rfl (storeN_row rfl) (fun τs13_20 hs13_20 hu13_20 => ⟨.inl rfl, ?_⟩))
              replace hS : Stars (_ :: _ :: _ :: _ :: _ :: _ :: _ :: _ :: _ :: rs) _ := (hS.top 5 rfl).ptU hu13_20 hs13_20
              refine Dr.done ?_
              refine St.keep [63, 10, 56, 43, 34, 33, 27, 0, 1, 2, 3, 4] ?_
              show St _ _ _ [(63, _), (10, _), (56, _), (43, _), (34, _), (33, _), (27, _), (0, _), (1, _), (2, _), (3, _), (4, _)] _ _ _
              refine St.inBlock ?_
              refine St.fin Try.func32 .nil (Sub.rfl' _) ?_
              replace hS : Stars (_ :: _ :: _ :: _ :: _ :: _ :: _ :: _ :: _ :: rs) _ := hS.top 1 rfl
              have e1 : (s3 ++ [(⟨i, e.m, true⟩ : Got)]).length = s3.length + 1 := by simp
              have e2 : (s3 ++ [(⟨i, e.m, true⟩ : Got)]).flatMap Got.cells = s3.flatMap Got.cells ++ (⟨i, e.m, true⟩ : Got).cells := by simp
              replace hS : Stars (ownA 103 8 (some ⟨b96, o96, none⟩) (s3 ++ [(⟨i, e.m, true⟩ : Got)]).length c96 ((s3 ++ [(⟨i, e.m, true⟩ : Got)]).flatMap Got.cells) :: _) _ := hS.imp fun h hx => by rw [e1, e2]; exact hx
              replace hS : Stars (_ :: _ :: _ :: _ :: _ :: _ :: _ :: _ :: _ :: rs) _ := hS.top 1 rfl
              replace hS : Stars (pt bk (.cells (stayC (some ⟨lb, lo, none⟩) bs ⟨s0, s1, s2, s3 ++ [(⟨i, e.m, true⟩ : Got)], some (jx, x), s5, s6, s7, s8, s9, s10, s11⟩ (some ⟨b96, o96, none⟩) c96 up uc) 101 (0, 0)) :: _) _ := hS.imp fun h hx => by simp only [stayC, e1]; exact hx
              replace hS : Stars (_ :: _ :: _ :: _ :: _ :: _ :: _ :: _ :: _ :: rs) _ := hS.top 2 rfl
              replace hS := hS.drop
              replace hS : Stars (_ :: _ :: _ :: _ :: _ :: _ :: _ :: _ :: rs) _ := hS.top 4 rfl
              replace hS := hS.drop
              replace hS : Stars (_ :: _ :: _ :: _ :: _ :: _ :: _ :: rs) _ := hS.top 5 rfl
              replace hS : Stars (_ :: _ :: _ :: _ :: _ :: _ :: _ :: rs) _ := hS.top 5 rfl
              replace hS : Stars (_ :: _ :: _ :: _ :: _ :: _ :: _ :: rs) _ := hS.top 3 rfl
              replace hS : Stars (_ :: _ :: _ :: _ :: _ :: _ :: _ :: rs) _ := hS.top 3 rfl
              replace hS := stays_close (s := ⟨s0, s1, s2, s3 ++ [⟨i, e.m, true⟩], some (jx, x), s5, s6, s7, s8, s9, s10, s11⟩) hS hbk hklt
              replace hS : Stars (_ :: _ :: _ :: _ :: rs) _ := hS.top 3 rfl
              replace hS : Stars (_ :: _ :: _ :: _ :: rs) _ := hS.top 1 rfl
              replace hS : Stars (_ :: _ :: _ :: _ :: rs) _ := hS.top 3 rfl
              replace hS : Stars (_ :: _ :: _ :: _ :: rs) _ := hS.top 3 rfl
              have h1 : ¬ e.kind = 1 := by simpa using hc1
              have h2 : ¬ e.kind = 4 := by simpa using hc2
              rw [inn_some hn hs hc0, if_neg h1, if_neg h2, if_pos (by simpa using hc3)]
              refine ⟨_, ?_, (hJ.brk 2 (e.new != x.new)).mod fun s' hs' => ?_⟩
              · rw [mod_some (J := J.brk 2 _) hs]; exact hS
              · have := Option.some.inj (hs'.symm.trans hs)
                subst this
                refine ⟨⟨hwf.trans, hwf.next, hwf.view, hwf.ready, fun g hg => ?_, hwf.ups, hwf.before, fun g hg hg2 => ?_⟩, by simp; omega, by simp only []; omega⟩
                · rcases List.mem_append.1 hg with h3 | h3
                  · exact hwf.gots g h3
                  · simp at h3; subst h3; exact ⟨e, hi, rfl⟩
                · rcases List.mem_append.1 hg with h3 | h3
                  · exact hwf.tr g h3 hg2
                  · simp at h3; subst h3; exact hg2
            · obtain rfl : s4 = none := by cases s4 with | none => rfl | some r => simp [Cs.evp] at hc4
              refine St.skip ?_
              refine St.seq ?_
              refine St.draw0 [7] [(0, .w), (1, .w), (2, .w), (3, .w), (4, .r), (5, .r), (6, .w), (7, .x)] mixed (by kernel_rfl) rfl ?_
              refine Dr.w rfl rfl rfl rfl (q_move rfl) ?_
              refine Dr.w rfl rfl rfl rfl (q_move rfl) ?_
              refine Dr.w rfl rfl rfl rfl (q_nil rfl) ?_
              refine Dr.w rfl rfl rfl rfl (q_fieldAddr fo_39_3 rfl rfl) ?_
              refine Dr.r rfl rfl rfl rfl (Sub.rfl' _) (q_loadA ac_30 rfl (hS.ro 7 rfl _ _ hb) (row_partN hr 4 2 (by decide) rfl rfl)) ?_
              refine Dr.r rfl rfl rfl rfl (Sub.rfl' _) (q_loadA ac_30 rfl (hS.pt 0 rfl) (rowN_row rfl)) ?_
              refine Dr.w rfl rfl rfl rfl (q_ane rfl rfl eg_30 (eq_30 e.new (0, 0))) ?_
              replace hS : Stars (_ :: _ :: _ :: _ :: _ :: _ :: _ :: _ :: rs) _ := hS.top 6 rfl
              replace hS : Stars (_ :: _ :: _ :: _ :: _ :: _ :: _ :: _ :: rs) _ := hS.top 6 rfl
              refine Dr.x rfl rfl rfl rfl (e_callF rfl rfl rfl ca_35 ((jbreaks_spec _ _ _ _ _ _ _ _ hS _ _).mono fun v78 τ78 h78 => ?_))
              replace hS := h78
              refine ⟨.inl rfl, ?_⟩
              refine Dr.done ?_
              refine St.keep [63, 10, 56, 43, 34, 33, 27, 0, 1, 2, 3, 4] ?_
              show St _ _ _ [(63, _), (10, _), (56, _), (43, _), (34, _), (33, _), (27, _), (0, _), (1, _), (2, _), (3, _), (4, _)] _ _ _
              refine St.draw0 [17, 20] [(0, .w), (1, .w), (2, .w), (3, .w), (4, .r), (5, .w), (6, .w), (7, .w), (8, .w), (9, .r), (10, .w), (11, .w), (12, .w), (13, .r), (14, .w), (15, .w), (16, .x), (17, .x), (18, .w), (19, .w), (20, .x)] mixed (by kernel_rfl) rfl ?_
              refine Dr.w rfl rfl rfl rfl (q_move rfl) ?_
              refine Dr.w rfl rfl rfl rfl (q_move rfl) ?_
              refine Dr.w rfl rfl rfl rfl (q_nil rfl) ?_
              refine Dr.w rfl rfl rfl rfl (q_fieldAddr fo_101_3 rfl rfl) ?_
              refine Dr.r rfl rfl rfl rfl (Sub.rfl' _) (q_load1 ac_99 rfl (hS.pt 3 rfl) rfl) ?_
              refine Dr.w rfl rfl rfl rfl (q_move rfl) ?_
              refine Dr.w rfl rfl rfl rfl (q_move rfl) ?_
              refine Dr.w rfl rfl rfl rfl (q_nil rfl) ?_
              refine Dr.w rfl rfl rfl rfl (q_fieldAddr fo_39_5 rfl rfl) ?_
              refine Dr.r rfl rfl rfl rfl (Sub.rfl' _) (q_loadA ac_34 rfl (hS.ro 7 rfl _ _ hb) (row_partN hr 7 6 (by decide) rfl rfl)) ?_
              refine Dr.w rfl rfl rfl rfl (q_move rfl) ?_
              refine Dr.w rfl rfl rfl rfl (q_nil rfl) ?_
              refine Dr.w rfl rfl rfl rfl (q_fieldAddr fo_101_4 rfl rfl) ?_
              refine Dr.r rfl rfl rfl rfl (Sub.rfl' _) (q_load1 ac_63 rfl (hS.pt 3 rfl) rfl) ?_
              refine Dr.w rfl rfl rfl rfl (q_pnen Try.underlying63 rfl rfl) ?_
              refine Dr.w rfl rfl rfl rfl (q_build rfl zo_103 pl_103 (fillN_fill rfl)) ?_
              refine Dr.x rfl rfl rfl rfl (e_buildSlice so_99 zo_103 zr_103_1 rfl rfl rfl (fillN_fill rfl) (fun b95 τ95 hb95 => ⟨.inr hb95.sub, ?_⟩))
              replace hS : Stars (_ :: _ :: _ :: _ :: _ :: _ :: _ :: _ :: _ :: rs) _ := hS.fresh hb95
              refine Dr.x rfl rfl rfl rfl (e_append rfl Try.underlying99 Try.underlying99 sb_103 zo_103 rfl rfl rfl (hS.own 5 rfl) (Rd.lit (hS.pt 0 rfl) rfl) (.inl (by omega)) (allFlat_mem rfl) (by omega) (by omega) (fun b96 o96 c96 τ96 hf96 hu96 ho96 => ⟨.inl rfl, ?_⟩))
              replace hS : Stars (_ :: _ :: _ :: _ :: _ :: _ :: _ :: _ :: _ :: rs) _ := (hS.top 5 rfl).ownU hf96 hu96 ho96
              refine Dr.w rfl rfl rfl rfl (q_nil rfl) ?_
              refine Dr.w rfl rfl rfl rfl (q_fieldAddr fo_101_3 rfl rfl) ?_
              refine Dr.no rfl rfl rfl (e_store rfl rfl sz_99 rfl (hS.pt 5 rfl) (Nat.le_of_ble_eq_true rfl) rfl (storeN_row rfl) (fun τs13_20 hs13_20 hu13_20 => ⟨.inl rfl, ?_⟩))
              replace hS : Stars (_ :: _ :: _ :: _ :: _ :: _ :: _ :: _ :: _ :: rs) _ := (hS.top 5 rfl).ptU hu13_20 hs13_20
              refine Dr.done ?_
              refine St.keep [63, 10, 56, 43, 34, 33, 27, 0, 1, 2, 3, 4] ?_
              show St _ _ _ [(63, _), (10, _), (56, _), (43, _), (34, _), (33, _), (27, _), (0, _), (1, _), (2, _), (3, _), (4, _)] _ _ _
              refine St.inBlock ?_
              refine St.fin Try.func32 .nil (Sub.rfl' _) ?_
              replace hS : Stars (_ :: _ :: _ :: _ :: _ :: _ :: _ :: _ :: _ :: rs) _ := hS.top 1 rfl
              have e1 : (s3 ++ [(⟨i, e.m, false⟩ : Got)]).length = s3.length + 1 := by simp
              have e2 : (s3 ++ [(⟨i, e.m, false⟩ : Got)]).flatMap Got.cells = s3.flatMap Got.cells ++ (⟨i, e.m, false⟩ : Got).cells := by simp
              replace hS : Stars (ownA 103 8 (some ⟨b96, o96, none⟩) (s3 ++ [(⟨i, e.m, false⟩ : Got)]).length c96 ((s3 ++ [(⟨i, e.m, false⟩ : Got)]).flatMap Got.cells) :: _) _ := hS.imp fun h hx => by rw [e1, e2]; exact hx
              replace hS : Stars (_ :: _ :: _ :: _ :: _ :: _ :: _ :: _ :: _ :: rs) _ := hS.top 1 rfl
              replace hS : Stars (pt bk (.cells (stayC (some ⟨lb, lo, none⟩) bs ⟨s0, s1, s2, s3 ++ [(⟨i, e.m, false⟩ : Got)], none, s5, s6, s7, s8, s9, s10, s11⟩ (some ⟨b96, o96, none⟩) c96 up uc) 101 (0, 0)) :: _) _ := hS.imp fun h hx => by simp only [stayC, e1]; exact hx
              replace hS : Stars (_ :: _ :: _ :: _ :: _ :: _ :: _ :: _ :: _ :: rs) _ := hS.top 2 rfl
              replace hS := hS.drop
              replace hS : Stars (_ :: _ :: _ :: _ :: _ :: _ :: _ :: _ :: rs) _ := hS.top 4 rfl
              replace hS := hS.drop
              replace hS : Stars (_ :: _ :: _ :: _ :: _ :: _ :: _ :: rs) _ := hS.top 5 rfl
              replace hS : Stars (_ :: _ :: _ :: _ :: _ :: _ :: _ :: rs) _ := hS.top 5 rfl
              replace hS : Stars (_ :: _ :: _ :: _ :: _ :: _ :: _ :: rs) _ := hS.top 3 rfl
              replace hS : Stars (_ :: _ :: _ :: _ :: _ :: _ :: _ :: rs) _ := hS.top 3 rfl
              replace hS := stays_close (s := ⟨s0, s1, s2, s3 ++ [⟨i, e.m, false⟩], none, s5, s6, s7, s8, s9, s10, s11⟩) hS hbk hklt
              replace hS : Stars (_ :: _ :: _ :: _ :: rs) _ := hS.top 3 rfl
              replace hS : Stars (_ :: _ :: _ :: _ :: rs) _ := hS.top 1 rfl
              replace hS : Stars (_ :: _ :: _ :: _ :: rs) _ := hS.top 3 rfl
              replace hS : Stars (_ :: _ :: _ :: _ :: rs) _ := hS.top 3 rfl
              have h1 : ¬ e.kind = 1 := by simpa using hc1
              have h2 : ¬ e.kind = 4 := by simpa using hc2
              rw [inn_some hn hs hc0, if_neg h1, if_neg h2, if_pos (by simpa using hc3)]
              refine ⟨_, ?_, (hJ.brk 2 (e.new != (0, 0))).mod fun s' hs' => ?_⟩
              · rw [mod_some (J := J.brk 2 _) hs]; exact hS
              · have := Option.some.inj (hs'.symm.trans hs)
                subst this
                refine ⟨⟨hwf.trans, hwf.next, hwf.view, hwf.ready, fun g hg => ?_, hwf.ups, hwf.before, fun g hg hg2 => ?_⟩, by simp; omega, by simp only []; omega⟩
                · rcases List.mem_append.1 hg with h3 | h3
                  · exact hwf.gots g h3
                  · simp at h3; subst h3; exact ⟨e, hi, rfl⟩
                · rcases List.mem_append.1 hg with h3 | h3
                  · exact hwf.tr g h3 hg2
                  · simp at h3; subst h3; exact hg2
          · skip
            refine St.skip ?_
            refine St.inBlock ?_
            refine St.fin Try.func32 .nil (Sub.rfl' _) ?_
            replace hS := stays_close (s := ⟨s0, s1, s2, s3, s4, s5, s6, s7, s8, s9, s10, s11⟩) hS hbk hklt
            replace hS : Stars (_ :: _ :: _ :: _ :: rs) _ := hS.top 3 rfl
            replace hS : Stars (_ :: _ :: _ :: _ :: rs) _ := hS.top 1 rfl
            replace hS : Stars (_ :: _ :: _ :: _ :: rs) _ := hS.top 3 rfl
            replace hS : Stars (_ :: _ :: _ :: _ :: rs) _ := hS.top 3 rfl
            rw [set_same hs] at hS
            have h1 : ¬ e.kind = 1 := by simpa using hc1
            have h2 : ¬ e.kind = 4 := by simpa using hc2
            have h3 : ¬ e.kind = 2 := by simpa using hc3
            rw [inn_some hn hs hc0, if_neg h1, if_neg h2, if_neg h3]
            exact ⟨_, hS, hJ.more⟩
end Go.Proofs.Ytdgdbnkhmdncdaa
