/- The monitor: EvRegular. -/
import Derived.Test.YtdgdbnkhmdncdaaM2
import Derived.Test.YtdgdbnkhmdncdaaMl
set_option linter.unusedSectionVars false
set_option linter.unusedSimpArgs false
set_option linter.unusedVariables false
namespace Go.Proofs.Ytdgdbnkhmdncdaa
open Go.Gw Go.Cs
variable [Env]
set_option maxHeartbeats 1000000
namespace FM3
theorem ac_28 : aggCells Try.prog 28 = some none := by kernel_rfl
theorem ac_3 : aggCells Try.prog 3 = some none := by kernel_rfl
theorem ac_30 : aggCells Try.prog 30 = some (some 2) := by kernel_rfl
theorem ac_46 : aggCells Try.prog 46 = some none := by kernel_rfl
theorem ac_47 : aggCells Try.prog 47 = some none := by kernel_rfl
theorem ac_50 : aggCells Try.prog 50 = some none := by kernel_rfl
theorem ac_51 : aggCells Try.prog 51 = some none := by kernel_rfl
theorem ac_56 : aggCells Try.prog 56 = some none := by kernel_rfl
theorem ac_59 : aggCells Try.prog 59 = some none := by kernel_rfl
theorem ac_63 : aggCells Try.prog 63 = some none := by kernel_rfl
theorem ca_17 : callable Try.prog 17 = true := by kernel_rfl
theorem ca_22 : callable Try.prog 22 = true := by kernel_rfl
theorem ca_23 : callable Try.prog 23 = true := by kernel_rfl
theorem ca_24 : callable Try.prog 24 = true := by kernel_rfl
theorem ca_25 : callable Try.prog 25 = true := by kernel_rfl
theorem eg_30 : Try.prog.eqGuardType Try.prog.depth 30 = false := by kernel_rfl
theorem fo_39_1 : fieldOff Try.prog 39 1 = some 1 := by kernel_rfl
theorem fo_39_2 : fieldOff Try.prog 39 2 = some 2 := by kernel_rfl
theorem fo_39_3 : fieldOff Try.prog 39 3 = some 4 := by kernel_rfl
theorem fo_39_4 : fieldOff Try.prog 39 4 = some 6 := by kernel_rfl
theorem fo_49_2 : fieldOff Try.prog 49 2 = some 2 := by kernel_rfl
theorem fo_49_3 : fieldOff Try.prog 49 3 = some 3 := by kernel_rfl
theorem fo_53_0 : fieldOff Try.prog 53 0 = some 0 := by kernel_rfl
theorem fo_53_1 : fieldOff Try.prog 53 1 = some 4 := by kernel_rfl
theorem fo_53_2 : fieldOff Try.prog 53 2 = some 5 := by kernel_rfl
theorem fo_65_0 : fieldOff Try.prog 65 0 = some 0 := by kernel_rfl
theorem fo_65_1 : fieldOff Try.prog 65 1 = some 1 := by kernel_rfl
theorem fo_65_2 : fieldOff Try.prog 65 2 = some 3 := by kernel_rfl
theorem fo_65_5 : fieldOff Try.prog 65 5 = some 7 := by kernel_rfl
theorem pl_65 : places Try.prog 65 = some #[(0, 1), (1, 2), (3, 1), (4, 2), (6, 1), (7, 1), (8, 1)] := by kernel_rfl
theorem sb_56 : sizeBytes Try.prog 56 = some (1, 8) := by kernel_rfl
theorem se_47 : sliceElem Try.prog 47 = some 1 := by kernel_rfl
theorem so_47 : sliceOf Try.prog 47 = some (56, 1) := by kernel_rfl
theorem sz_47 : szOf Try.prog 47 = some 1 := by kernel_rfl
theorem zo_56 : zeroOf Try.prog 56 = some #[.pointer none] := by kernel_rfl
theorem zo_65 : zeroOf Try.prog 65 = some #[.int .i64 0, .int .u64 0, .int .i64 0, .int .u64 0, .slice none 0 0, .slice none 0 0, .map none, .pointer none, .bool false] := by kernel_rfl
theorem zr_56_1 : zrow #[.pointer none] (1 * 1) = #[.pointer none] := by kernel_rfl
theorem zv_4 : zeroV Try.prog 4 = some (.bool false) := by kernel_rfl
theorem zv_56 : zeroV Try.prog 56 = some (.pointer none) := by kernel_rfl
theorem zv_59 : zeroV Try.prog 59 = some (.int .u64 0) := by kernel_rfl
end FM3
open FM3

theorem mreg_spec (σ ρ : Heap) (rs : List Asr) (tb sb eb mb sc lb nb : Nat) (sp : Option Addr) (bs : List Nat) (M : MTr) (br : Int) (hbr : br = least M.bad) (sl : List (Who × Value)) (ml : List (Conf × Value)) (lal nal : List (Int × Value)) (N : Nat) (hM : MIs ρ 39 bs M sl ml lal nal N) (hN : N < 100000) (hS : Stars (pt tb (.cells (monC sb eb mb sp M.stays.length sc lb nb br M.len M.at_ M.rule) 53 (0, 0)) :: mapA encConf mb ml :: ownA 56 1 sp M.stays.length sc (bs.flatMap ptrC) :: mstsA bs M.stays :: mapA encI lb lal :: mapA encI nb nal :: ro ρ :: rs) σ) (e : Ev) : Does Try.prog 13 #[.pointer (some ⟨tb, 0, none⟩), e.v] σ (fun v τ => ∃ br' sp' sc' ml' nal' bs', Stars (pt tb (.cells (monC sb eb mb sp' (M.reg e).stays.length sc' lb nb br' M.len M.at_ M.rule) 53 (0, 0)) :: mapA encConf mb ml' :: ownA 56 1 sp' (M.reg e).stays.length sc' (bs'.flatMap ptrC) :: mstsA bs' (M.reg e).stays :: mapA encI lb lal :: mapA encI nb nal' :: ro ρ :: rs) τ ∧ br' = least (M.reg e).bad ∧ MIs ρ 39 bs' (M.reg e) sl ml' lal nal' (N + 1)) := by
  refine Does.enter (n := 193) (l := [(0, _), (1, _)]) Try.func13 rfl rfl (by simp) rfl ?_
  have hfew := hM.few
  refine St.seq ?_
  refine St.region rfl ?_
  refine Reg.x rfl rfl rfl (e_box rfl (cellsN_eq rfl) (fun b3 τ3 hb3 => ?_))
  replace hS : Stars (_ :: _ :: _ :: _ :: _ :: _ :: _ :: _ :: rs) _ := hS.fresh hb3
  refine Reg.done ?_
  refine St.keep [0, 1, 3] ?_
  show St _ _ _ [(3, _), (0, _), (1, _)] _ _ _
  refine St.seq ?_
  refine St.region rfl ?_
  refine Reg.q rfl rfl rfl (q_fieldAddr fo_39_1 rfl rfl) ?_
  refine Reg.q rfl rfl rfl (q_load1 ac_3 rfl (hS.pt 0 rfl) rfl) ?_
  refine Reg.q rfl rfl rfl (q_fieldAddr fo_39_2 rfl rfl) ?_
  refine Reg.q rfl rfl rfl (q_loadA ac_30 rfl (hS.pt 0 rfl) (rowN_row rfl)) ?_
  refine Reg.q rfl rfl rfl (q_fieldAddr fo_39_4 rfl rfl) ?_
  refine Reg.q rfl rfl rfl (q_load1 ac_28 rfl (hS.pt 0 rfl) rfl) ?_
  refine Reg.x rfl rfl rfl (e_makeMap (fun b16 τ16 hb16 => ?_))
  replace hS : Stars (_ :: _ :: _ :: _ :: _ :: _ :: _ :: _ :: _ :: rs) _ := hS.mapNew (enc := encI) hb16
  refine Reg.q rfl rfl rfl (q_build rfl zo_65 pl_65 (fillN_fill rfl)) ?_
  refine Reg.x rfl rfl rfl (e_box rfl (cellsN_eq rfl) (fun b18 τ18 hb18 => ?_))
  replace hS : Stars (_ :: _ :: _ :: _ :: _ :: _ :: _ :: _ :: _ :: _ :: rs) _ := hS.fresh hb18
  refine Reg.q rfl rfl rfl (q_assign rfl) ?_
  refine Reg.done ?_
  refine St.keep [3, 0, 1, 4] ?_
  show St _ _ _ [(4, _), (3, _), (0, _), (1, _)] _ _ _
  replace hS : Stars (_ :: _ :: _ :: _ :: _ :: _ :: _ :: _ :: _ :: _ :: rs) _ := hS.top 9 rfl
  replace hS : Stars (_ :: _ :: _ :: _ :: _ :: _ :: _ :: _ :: _ :: _ :: rs) _ := hS.top 3 rfl
  obtain ⟨ρ3, hs3, h3, hS'⟩ := hS.roNew
  replace hS := hS'
  replace hS : Stars (_ :: _ :: _ :: _ :: _ :: _ :: _ :: _ :: _ :: rs) _ := hS.top 1 rfl
  replace hS : Stars (pt b18 (.cells (mstC (MSt.new e) none 0 none 0 b16) 65 (0, 0)) :: _) _ := hS
  replace hS : Stars (_ :: _ :: _ :: _ :: _ :: _ :: _ :: _ :: _ :: rs) _ := hS.top 2 rfl
  replace hS : Stars (_ :: _ :: _ :: _ :: _ :: _ :: _ :: _ :: _ :: rs) _ := hS.top 1 rfl
  replace hS : Stars (_ :: _ :: _ :: _ :: _ :: _ :: _ :: _ :: _ :: rs) _ := hS.top 2 rfl
  replace hS : Stars (_ :: _ :: _ :: _ :: _ :: _ :: _ :: _ :: _ :: rs) _ := hS.top 8 rfl
  replace hS : Stars (_ :: _ :: _ :: _ :: _ :: _ :: _ :: _ :: _ :: rs) _ := hS.top 8 rfl
  replace hS : Stars (_ :: _ :: _ :: _ :: _ :: _ :: _ :: _ :: _ :: rs) _ := hS.top 8 rfl
  replace hS : Stars (_ :: _ :: _ :: _ :: _ :: _ :: _ :: _ :: _ :: rs) _ := hS.top 8 rfl
  replace hS : Stars (_ :: _ :: _ :: _ :: _ :: _ :: _ :: _ :: _ :: rs) _ := hS.top 8 rfl
  replace hS : Stars (_ :: _ :: _ :: _ :: _ :: _ :: _ :: _ :: _ :: rs) _ := hS.top 8 rfl
  refine St.seq ?_
  refine St.draw0 [16, 19] [(0, .w), (1, .w), (2, .w), (3, .w), (4, .r), (5, .w), (6, .r), (7, .r), (8, .w), (9, .w), (10, .w), (11, .w), (12, .w), (13, .r), (14, .w), (15, .r), (16, .x), (17, .w), (18, .w), (19, .x)] mixed (by kernel_rfl) rfl ?_
  refine Dr.w rfl rfl rfl rfl (q_move rfl) ?_
  refine Dr.w rfl rfl rfl rfl (q_move rfl) ?_
  refine Dr.w rfl rfl rfl rfl (q_nil rfl) ?_
  refine Dr.w rfl rfl rfl rfl (q_fieldAddr fo_53_1 rfl rfl) ?_
  refine Dr.r rfl rfl rfl rfl (Sub.rfl' _) (q_load1 ac_50 rfl (hS.pt 0 rfl) rfl) ?_
  refine Dr.w rfl rfl rfl rfl (q_fieldAddr fo_39_1 rfl rfl) ?_
  refine Dr.r rfl rfl rfl rfl (Sub.rfl' _) (q_load1 ac_3 rfl (hS.ro 6 rfl _ _ h3) rfl) ?_
  refine Dr.r rfl rfl rfl rfl (Sub.rfl' _) (q_lookup Try.underlying50 key_3 zv_4 rfl rfl (hS.map 4 rfl) (hM.live e.proc)) ?_
  refine Dr.w rfl rfl rfl rfl (q_not rfl) ?_
  refine Dr.w rfl rfl rfl rfl (q_move rfl) ?_
  refine Dr.joinv 37 (.bool (!M.live e.proc || !has e.mem e.proc)) 9 [4, 3, 0, 1, 19, 20, 21, 22, 23, 24, 25, 26, 27] (fun hk2_18 => ?_) ?_
  · skip
    refine Dr.split (d := 28) rfl (fun hg28 => ?_) (fun hg28 => ?_)
    · skip
      refine Dr.skip rfl rfl rfl rfl ?_
      refine Dr.skip rfl rfl rfl rfl ?_
      refine Dr.skip rfl rfl rfl rfl ?_
      refine Dr.skip rfl rfl rfl rfl ?_
      refine Dr.skip rfl rfl rfl rfl ?_
      refine Dr.skip rfl rfl rfl rfl ?_
      refine Dr.skip rfl rfl rfl rfl ?_
      refine Dr.skip rfl rfl rfl rfl ?_
      refine Dr.w rfl rfl rfl rfl (q_pickT rfl rfl) ?_
      exact Dr.meet 10 [4, 3, 0, 1, 19, 20, 21, 22, 23, 24, 25, 26, 27] hk2_18 rfl (by simp only [MSt.new, hg28, Bool.true_or, Bool.false_or]) rfl rfl
    · skip
      refine Dr.w rfl rfl rfl rfl (q_move rfl) ?_
      refine Dr.w rfl rfl rfl rfl (q_nil rfl) ?_
      refine Dr.w rfl rfl rfl rfl (q_fieldAddr fo_65_2 rfl rfl) ?_
      refine Dr.r rfl rfl rfl rfl (Sub.rfl' _) (q_load1 ac_59 rfl (hS.pt 7 rfl) rfl) ?_
      refine Dr.w rfl rfl rfl rfl (q_fieldAddr fo_39_1 rfl rfl) ?_
      refine Dr.r rfl rfl rfl rfl (Sub.rfl' _) (q_load1 ac_3 rfl (hS.ro 6 rfl _ _ h3) rfl) ?_
      refine Dr.x rfl rfl rfl rfl (e_callF rfl rfl rfl ca_22 ((has_spec _ _ _).mono fun v35 τ35 h35 => ?_))
      obtain ⟨rfl, rfl⟩ := h35
      refine ⟨.inl rfl, ?_⟩
      refine Dr.w rfl rfl rfl rfl (q_not rfl) ?_
      refine Dr.w rfl rfl rfl rfl (q_pickF rfl rfl) ?_
      exact Dr.meet 10 [4, 3, 0, 1, 19, 20, 21, 22, 23, 24, 25, 26, 27] hk2_18 rfl (by simp only [MSt.new, hg28, Bool.true_or, Bool.false_or]) rfl rfl
  · skip
    refine Dr.x rfl rfl rfl rfl (e_callF rfl rfl rfl ca_17 ((mbreaks_spec _ _ _ _ _ _ _ _ _ _ _ _ _ _ _ hS _ _).mono fun v38 τ38 h38 => ?_))
    replace hS := h38
    replace hbr := least_brk (!M.live e.proc || !has e.mem e.proc) hbr (show (1 : Int) ≤ 1 by decide) (by decide)
    refine ⟨.inl rfl, ?_⟩
    refine Dr.done ?_
    refine St.keep [4, 3, 0, 1] ?_
    show St _ _ _ [(4, _), (3, _), (0, _), (1, _)] _ _ _
    refine St.seq ?_
    refine St.draw0 [] [(0, .w), (1, .w), (2, .w), (3, .w), (4, .r), (5, .w), (6, .r), (7, .r), (8, .w), (9, .w), (10, .w), (11, .w), (12, .w)] mixed (by kernel_rfl) rfl ?_
    refine Dr.w rfl rfl rfl rfl (q_move rfl) ?_
    refine Dr.w rfl rfl rfl rfl (q_nil rfl) ?_
    refine Dr.w rfl rfl rfl rfl (q_fieldAddr fo_53_0 rfl rfl) ?_
    refine Dr.w rfl rfl rfl rfl (q_fieldAddr fo_49_2 rfl rfl) ?_
    refine Dr.r rfl rfl rfl rfl (Sub.rfl' _) (q_load1 ac_46 rfl (hS.pt 0 rfl) rfl) ?_
    refine Dr.w rfl rfl rfl rfl (q_fieldAddr fo_39_2 rfl rfl) ?_
    refine Dr.r rfl rfl rfl rfl (Sub.rfl' _) (q_loadA ac_30 rfl (hS.ro 6 rfl _ _ h3) (rowN_row rfl)) ?_
    refine Dr.r rfl rfl rfl rfl (Sub.rfl' _) (q_lookup2 Try.underlying46 key_30 zv_59 rfl (show _ = some (encConf e.conf) from rfl) (hS.map 1 rfl) (show _ = Value.int .u64 ((M.members e.conf).getD 0) by rw [hM.memb e.conf]; cases M.members e.conf <;> rfl) (show _ = (M.members e.conf).isSome by rw [hM.memb e.conf]; cases M.members e.conf <;> rfl)) ?_
    refine Dr.w rfl rfl rfl rfl (q_move rfl) ?_
    refine Dr.w rfl rfl rfl rfl (q_extract rfl rfl) ?_
    refine Dr.w rfl rfl rfl rfl (q_extract rfl rfl) ?_
    refine Dr.w rfl rfl rfl rfl (q_assign rfl) ?_
    refine Dr.w rfl rfl rfl rfl (q_assign rfl) ?_
    refine Dr.done ?_
    refine St.keep [4, 3, 0, 1, 5, 6] ?_
    show St _ _ _ [(6, _), (5, _), (4, _), (3, _), (0, _), (1, _)] _ _ _
    refine St.seq ?_
    refine St.region rfl ?_
    refine Reg.q rfl rfl rfl (q_move rfl) ?_
    refine Reg.q rfl rfl rfl (q_move rfl) ?_
    refine Reg.q rfl rfl rfl (q_move rfl) ?_
    refine Reg.joinv 59 (.bool (toldBad (M.members e.conf) e.mem)) 7 [6, 5, 4, 3, 0, 1, 50, 51] (fun hk4_9 => ?_) ?_
    · skip
      refine Reg.split (d := 52) rfl (fun hg52 => ?_) (fun hg52 => ?_)
      · skip
        refine Reg.q rfl rfl rfl (q_move rfl) ?_
        refine Reg.q rfl rfl rfl (q_move rfl) ?_
        refine Reg.q rfl rfl rfl (q_nil rfl) ?_
        refine Reg.q rfl rfl rfl (q_fieldAddr fo_65_2 rfl rfl) ?_
        refine Reg.q rfl rfl rfl (q_load1 ac_59 rfl (hS.pt 7 rfl) rfl) ?_
        refine Reg.q rfl rfl rfl (q_ine rfl rfl) ?_
        refine Reg.q rfl rfl rfl (q_pickT rfl rfl) ?_
        exact Reg.meet 8 [6, 5, 4, 3, 0, 1, 50, 51] hk4_9 rfl (by revert hg52; cases M.members e.conf <;> simp [toldBad, MSt.new]) rfl rfl
      · skip
        refine Reg.skip rfl rfl rfl ?_
        refine Reg.skip rfl rfl rfl ?_
        refine Reg.skip rfl rfl rfl ?_
        refine Reg.skip rfl rfl rfl ?_
        refine Reg.skip rfl rfl rfl ?_
        refine Reg.skip rfl rfl rfl ?_
        refine Reg.q rfl rfl rfl (q_pickF rfl rfl) ?_
        exact Reg.meet 8 [6, 5, 4, 3, 0, 1, 50, 51] hk4_9 rfl (by revert hg52; cases M.members e.conf <;> simp [toldBad, MSt.new]) rfl rfl
    · skip
      refine Reg.x rfl rfl rfl (e_callF rfl rfl rfl ca_17 ((mbreaks_spec _ _ _ _ _ _ _ _ _ _ _ _ _ _ _ hS _ _).mono fun v60 τ60 h60 => ?_))
      replace hS := h60
      replace hbr := least_brk (toldBad (M.members e.conf) e.mem) hbr (show (1 : Int) ≤ 1 by decide) (by decide)
      refine Reg.done ?_
      refine St.keep [6, 5, 4, 3, 0, 1] ?_
      show St _ _ _ [(6, _), (5, _), (4, _), (3, _), (0, _), (1, _)] _ _ _
      refine St.seq ?_
      refine St.draw0 [11] [(0, .w), (1, .w), (2, .w), (3, .w), (4, .r), (5, .w), (6, .r), (7, .w), (8, .w), (9, .w), (10, .r), (11, .x)] mixed (by kernel_rfl) rfl ?_
      refine Dr.w rfl rfl rfl rfl (q_move rfl) ?_
      refine Dr.w rfl rfl rfl rfl (q_nil rfl) ?_
      refine Dr.w rfl rfl rfl rfl (q_fieldAddr fo_53_0 rfl rfl) ?_
      refine Dr.w rfl rfl rfl rfl (q_fieldAddr fo_49_2 rfl rfl) ?_
      refine Dr.r rfl rfl rfl rfl (Sub.rfl' _) (q_load1 ac_46 rfl (hS.pt 0 rfl) rfl) ?_
      refine Dr.w rfl rfl rfl rfl (q_fieldAddr fo_39_2 rfl rfl) ?_
      refine Dr.r rfl rfl rfl rfl (Sub.rfl' _) (q_loadA ac_30 rfl (hS.ro 6 rfl _ _ h3) (rowN_row rfl)) ?_
      refine Dr.w rfl rfl rfl rfl (q_move rfl) ?_
      refine Dr.w rfl rfl rfl rfl (q_nil rfl) ?_
      refine Dr.w rfl rfl rfl rfl (q_fieldAddr fo_65_2 rfl rfl) ?_
      refine Dr.r rfl rfl rfl rfl (Sub.rfl' _) (q_load1 ac_59 rfl (hS.pt 7 rfl) rfl) ?_
      refine Dr.no rfl rfl rfl (e_mapUpdate Try.underlying46 key_30 rfl (show _ = some (encConf e.conf) from rfl) rfl (hS.map 1 rfl) (fun τu5_11 hmu5_11 huu5_11 => ⟨.inl rfl, ?_⟩))
      replace hS : Stars (_ :: _ :: _ :: _ :: _ :: _ :: _ :: _ :: _ :: rs) _ := (hS.top 1 rfl).mapU huu5_11 hmu5_11
      refine Dr.done ?_
      refine St.keep [6, 5, 4, 3, 0, 1] ?_
      show St _ _ _ [(6, _), (5, _), (4, _), (3, _), (0, _), (1, _)] _ _ _
      refine St.seq ?_
      refine St.seq ?_
      refine St.region rfl ?_
      refine Reg.q rfl rfl rfl (q_move rfl) ?_
      refine Reg.q rfl rfl rfl (q_nil rfl) ?_
      refine Reg.q rfl rfl rfl (q_fieldAddr fo_53_0 rfl rfl) ?_
      refine Reg.q rfl rfl rfl (q_fieldAddr fo_49_3 rfl rfl) ?_
      refine Reg.q rfl rfl rfl (q_load1 ac_47 rfl (hS.pt 1 rfl) rfl) ?_
      refine Reg.q rfl rfl rfl (q_lenS rfl se_47 rfl) ?_
      refine Reg.q rfl rfl rfl (q_move rfl) ?_
      refine Reg.done ?_
      refine St.keep [6, 5, 4, 3, 0, 1, 76, 77, 78] ?_
      show St _ _ _ [(78, _), (77, _), (76, _), (6, _), (5, _), (4, _), (3, _), (0, _), (1, _)] _ _ _
      refine St.block ?_
      replace hS : Stars (_ :: _ :: _ :: _ :: _ :: _ :: _ :: _ :: _ :: rs) _ := hS.top 8 rfl
      replace hS : Stars (_ :: _ :: _ :: _ :: _ :: _ :: _ :: _ :: _ :: rs) _ := hS.top 8 rfl
      replace hS : Stars (_ :: _ :: _ :: _ :: _ :: _ :: _ :: _ :: _ :: rs) _ := hS.top 8 rfl
      replace hS : Stars (_ :: _ :: _ :: _ :: _ :: _ :: _ :: _ :: _ :: rs) _ := hS.top 8 rfl
      replace hS : Stars (_ :: _ :: _ :: _ :: _ :: _ :: _ :: _ :: _ :: rs) _ := hS.top 8 rfl
      replace hS : Stars (_ :: _ :: _ :: _ :: _ :: _ :: _ :: _ :: _ :: rs) _ := hS.top 8 rfl
      replace hS : Stars (_ :: _ :: _ :: _ :: _ :: _ :: _ :: _ :: _ :: rs) _ := hS.top 8 rfl
      replace hS : Stars (_ :: _ :: _ :: _ :: _ :: _ :: _ :: _ :: _ :: rs) _ := hS.top 7 rfl
      replace hS : Stars (_ :: _ :: _ :: _ :: _ :: _ :: _ :: _ :: _ :: rs) _ := hS.top 8 rfl
      refine St.loopw (Y := Nat × Int) (fun y => [(78, .int .i64 (y.1 : Nat))]) [77, 76, 6, 5, 4, 3, 0, 1] (fun y τ => Stars (pt tb (.cells (monC sb eb mb sp M.stays.length sc lb nb y.2 M.len M.at_ M.rule) 53 (0, 0)) :: mapA encConf mb (put ml e.conf (.int .u64 e.mem)) :: ownA 56 1 sp M.stays.length sc (bs.flatMap ptrC) :: mstsA bs M.stays :: mapA encI lb lal :: mapA encI nb nal :: ro ρ3 :: pt b18 (.cells (mstC (MSt.new e) none 0 none 0 b16) 65 (0, 0)) :: mapA encI b16 [] :: rs) τ ∧ y.1 ≤ M.stays.length ∧ y.2 = least (fun q => ((M.bad q || (q == 1 && (!M.live e.proc || !has e.mem e.proc))) || (q == 1 && toldBad (M.members e.conf) e.mem)) || (q == 1 && (M.stays.take y.1).any fun o => o.conf == e.conf && o.proc == e.proc))) (fun y => M.stays.length - y.1) ((0, _)) rfl (⟨hS, Nat.zero_le _, hbr.trans (least_congr fun q => by simp)⟩) ?_
      intro ⟨j, br⟩ τ ⟨hS, hj, hbr⟩ back
      simp only [] at hS hj hbr
      show St _ _ _ [(78, _), (77, _), (76, _), (6, _), (5, _), (4, _), (3, _), (0, _), (1, _)] _ _ _
      refine St.seq ?_
      refine St.region rfl ?_
      refine Reg.q rfl rfl rfl (q_lt rfl rfl) ?_
      refine Reg.done ?_
      refine St.keep [78, 77, 76, 6, 5, 4, 3, 0, 1, 79] ?_
      show St _ _ _ [(79, _), (78, _), (77, _), (76, _), (6, _), (5, _), (4, _), (3, _), (0, _), (1, _)] _ _ _
      refine St.seq ?_
      refine St.cond rfl (fun hc0 => ?_) (fun hc0 => ?_)
      · simp at hc0
        obtain ⟨o, ho⟩ : ∃ o, M.stays[j]? = some o := ⟨_, List.getElem?_eq_getElem hc0⟩
        obtain ⟨bo, hbo⟩ : ∃ bo, bs[j]? = some bo := ⟨_, List.getElem?_eq_getElem (by rw [hM.len]; exact hc0)⟩
        have hat := any_take ho (fun o => o.conf == e.conf && o.proc == e.proc)
        obtain ⟨ao0, co0, ao1, co1, cbo, clo, hsto, _, _, _, _⟩ := msts_at hS (k := 3) rfl hbo ho
        obtain ⟨b9, o9, cs9, T9, f9, hsp9, hb9, hl9, hr9⟩ := Rd.row ptrC_len (by decide) (hS.own 2 rfl).rd hbo
        refine St.skip ?_
        refine St.seq ?_
        refine St.block ?_
        refine St.seq ?_
        refine St.region rfl ?_
        refine Reg.q rfl rfl rfl (q_indexAt se_47 rfl hsp9 rfl (by omega) rfl) ?_
        refine Reg.q rfl rfl rfl (q_load1 ac_56 rfl hb9 (row_cell hr9 0 rfl)) ?_
        refine Reg.q rfl rfl rfl (q_assign rfl) ?_
        refine Reg.done ?_
        refine St.keep [79, 78, 77, 76, 6, 5, 4, 3, 0, 1, 8] ?_
        show St _ _ _ [(8, _), (79, _), (78, _), (77, _), (76, _), (6, _), (5, _), (4, _), (3, _), (0, _), (1, _)] _ _ _
        refine St.draw0 [21] [(0, .w), (1, .w), (2, .w), (3, .w), (4, .r), (5, .w), (6, .w), (7, .w), (8, .r), (9, .w), (10, .w), (11, .w), (12, .w), (13, .w), (14, .r), (15, .w), (16, .w), (17, .w), (18, .r), (19, .w), (20, .w), (21, .x)] mixed (by kernel_rfl) rfl ?_
        refine Dr.w rfl rfl rfl rfl (q_move rfl) ?_
        refine Dr.w rfl rfl rfl rfl (q_move rfl) ?_
        refine Dr.w rfl rfl rfl rfl (q_nil rfl) ?_
        refine Dr.w rfl rfl rfl rfl (q_fieldAddr fo_65_1 rfl rfl) ?_
        refine Dr.r rfl rfl rfl rfl (Sub.rfl' _) (q_loadA ac_30 rfl hsto (rowN_row rfl)) ?_
        refine Dr.w rfl rfl rfl rfl (q_move rfl) ?_
        refine Dr.w rfl rfl rfl rfl (q_nil rfl) ?_
        refine Dr.w rfl rfl rfl rfl (q_fieldAddr fo_65_1 rfl rfl) ?_
        refine Dr.r rfl rfl rfl rfl (Sub.rfl' _) (q_loadA ac_30 rfl (hS.pt 7 rfl) (rowN_row rfl)) ?_
        refine Dr.w rfl rfl rfl rfl (q_aeq rfl rfl eg_30 (eq_30 o.conf e.conf)) ?_
        refine Dr.w rfl rfl rfl rfl (q_move rfl) ?_
        refine Dr.joinv 102 (.bool (o.conf == e.conf && o.proc == e.proc)) 10 [8, 79, 78, 77, 76, 6, 5, 4, 3, 0, 1, 82, 83, 84, 85, 86, 87, 88, 89, 90, 91] (fun hk9_20 => ?_) ?_
        · skip
          refine Dr.split (d := 92) rfl (fun hg92 => ?_) (fun hg92 => ?_)
          · skip
            refine Dr.w rfl rfl rfl rfl (q_move rfl) ?_
            refine Dr.w rfl rfl rfl rfl (q_nil rfl) ?_
            refine Dr.w rfl rfl rfl rfl (q_fieldAddr fo_65_0 rfl rfl) ?_
            refine Dr.r rfl rfl rfl rfl (Sub.rfl' _) (q_load1 ac_3 rfl hsto rfl) ?_
            refine Dr.w rfl rfl rfl rfl (q_move rfl) ?_
            refine Dr.w rfl rfl rfl rfl (q_nil rfl) ?_
            refine Dr.w rfl rfl rfl rfl (q_fieldAddr fo_65_0 rfl rfl) ?_
            refine Dr.r rfl rfl rfl rfl (Sub.rfl' _) (q_load1 ac_3 rfl (hS.pt 7 rfl) rfl) ?_
            refine Dr.w rfl rfl rfl rfl (q_ieq rfl rfl) ?_
            refine Dr.w rfl rfl rfl rfl (q_pickT rfl rfl) ?_
            exact Dr.meet 11 [8, 79, 78, 77, 76, 6, 5, 4, 3, 0, 1, 82, 83, 84, 85, 86, 87, 88, 89, 90, 91] hk9_20 rfl (by simp only [MSt.new, hg92, Bool.true_and, Bool.false_and]) rfl rfl
          · skip
            refine Dr.skip rfl rfl rfl rfl ?_
            refine Dr.skip rfl rfl rfl rfl ?_
            refine Dr.skip rfl rfl rfl rfl ?_
            refine Dr.skip rfl rfl rfl rfl ?_
            refine Dr.skip rfl rfl rfl rfl ?_
            refine Dr.skip rfl rfl rfl rfl ?_
            refine Dr.skip rfl rfl rfl rfl ?_
            refine Dr.skip rfl rfl rfl rfl ?_
            refine Dr.skip rfl rfl rfl rfl ?_
            refine Dr.w rfl rfl rfl rfl (q_pickF rfl rfl) ?_
            exact Dr.meet 11 [8, 79, 78, 77, 76, 6, 5, 4, 3, 0, 1, 82, 83, 84, 85, 86, 87, 88, 89, 90, 91] hk9_20 rfl (by simp only [MSt.new, hg92, Bool.true_and, Bool.false_and]) rfl rfl
        · skip
          refine Dr.x rfl rfl rfl rfl (e_callF rfl rfl rfl ca_17 ((mbreaks_spec _ _ _ _ _ _ _ _ _ _ _ _ _ _ _ hS _ _).mono fun v103 τ103 h103 => ?_))
          replace hS := h103
          replace hbr := least_brk (o.conf == e.conf && o.proc == e.proc) hbr (show (1 : Int) ≤ 1 by decide) (by decide)
          refine ⟨.inl rfl, ?_⟩
          refine Dr.done ?_
          refine St.keep [8, 79, 78, 77, 76, 6, 5, 4, 3, 0, 1] ?_
          show St _ _ _ [(8, _), (79, _), (78, _), (77, _), (76, _), (6, _), (5, _), (4, _), (3, _), (0, _), (1, _)] _ _ _
          refine St.inBlock ?_
          refine St.region rfl ?_
          refine Reg.q rfl rfl rfl (q_add rfl rfl (inc64 (by omega))) ?_
          refine Reg.q rfl rfl rfl (q_move rfl) ?_
          refine Reg.done ?_
          refine St.keep [8, 79, 78, 77, 76, 6, 5, 4, 3, 0, 1] ?_
          show St _ _ _ [(78, _), (8, _), (79, _), (78, _), (77, _), (76, _), (6, _), (5, _), (4, _), (3, _), (0, _), (1, _)] _ _ _
          refine St.conv (SubL.list (by rfl)) (Sub.rfl' _) (back ((j + 1, brkI br 1 (o.conf == e.conf && o.proc == e.proc))) _ ?_ ?_)
          · exact ⟨hS, by simp only []; omega, hbr.trans (least_congr fun q => by simp only []; rw [hat]; cases (q == 1) <;> simp [Bool.or_assoc])⟩
          · simp only []; omega
      · simp at hc0
        obtain rfl : j = M.stays.length := by omega
        rw [List.take_length] at hbr
        obtain ⟨bq, hbq⟩ : ∃ bq, (M.now e.proc).bind (bs[·]?) = bq := ⟨_, rfl⟩
        have hlk := hM.now.get e.proc
        rw [hbq] at hlk
        refine St.exit rfl ?_
        refine St.seq ?_
        refine St.seq ?_
        refine St.draw0 [] [(0, .w), (1, .w), (2, .w), (3, .r), (4, .w), (5, .r), (6, .r), (7, .w)] mixed (by kernel_rfl) rfl ?_
        refine Dr.w rfl rfl rfl rfl (q_move rfl) ?_
        refine Dr.w rfl rfl rfl rfl (q_nil rfl) ?_
        refine Dr.w rfl rfl rfl rfl (q_fieldAddr fo_53_2 rfl rfl) ?_
        refine Dr.r rfl rfl rfl rfl (Sub.rfl' _) (q_load1 ac_51 rfl (hS.pt 0 rfl) rfl) ?_
        refine Dr.w rfl rfl rfl rfl (q_fieldAddr fo_39_1 rfl rfl) ?_
        refine Dr.r rfl rfl rfl rfl (Sub.rfl' _) (q_load1 ac_3 rfl (hS.ro 6 rfl _ _ h3) rfl) ?_
        refine Dr.r rfl rfl rfl rfl (Sub.rfl' _) (q_lookup Try.underlying51 key_3 zv_56 rfl rfl (hS.map 5 rfl) hlk) ?_
        refine Dr.w rfl rfl rfl rfl (q_assign rfl) ?_
        refine Dr.done ?_
        refine St.keep [79, 78, 77, 76, 6, 5, 4, 3, 0, 1, 9] ?_
        show St _ _ _ [(9, _), (79, _), (78, _), (77, _), (76, _), (6, _), (5, _), (4, _), (3, _), (0, _), (1, _)] _ _ _
        refine St.seq ?_
        refine St.region rfl ?_
        refine Reg.q rfl rfl rfl (q_move rfl) ?_
        refine Reg.q rfl rfl rfl (QOp.eq (v' := .bool bq.isSome) (q_pnen Try.underlying56 rfl rfl) (by show _ = Value.bool _; cases bq <;> rfl)) ?_
        refine Reg.done ?_
        refine St.keep [9, 79, 78, 77, 76, 6, 5, 4, 3, 0, 1, 113] ?_
        show St _ _ _ [(113, _), (9, _), (79, _), (78, _), (77, _), (76, _), (6, _), (5, _), (4, _), (3, _), (0, _), (1, _)] _ _ _
        refine St.cond rfl (fun hc1 => ?_) (fun hc1 => ?_)
        · obtain ⟨bk, rfl⟩ : ∃ bk, bq = some bk := Option.isSome_iff_exists.1 hc1
          obtain ⟨k, hk, hbk⟩ : ∃ k, M.now e.proc = some k ∧ bs[k]? = some bk := by
            cases hn : M.now e.proc with
            | none => rw [hn] at hbq; cases hbq
            | some k => rw [hn] at hbq; exact ⟨k, rfl, hbq⟩
          have hklt : k < M.stays.length := by rw [← hM.len]; exact (List.getElem?_eq_some_iff.1 hbk).1
          obtain ⟨b, hb⟩ : ∃ b, M.stays[k]? = some b := ⟨_, List.getElem?_eq_getElem hklt⟩
          have hwb := hM.wf b (List.mem_of_getElem? hb)
          obtain ⟨rs1, rs2⟩ := mreg_some hk hb
          obtain ⟨a0, c0, a1, c1, cb, cl, hst, hr0, hr1, hcm, hcn⟩ := msts_at hS (k := 3) rfl hbk hb
          refine St.seq ?_
          refine St.draw0 [7, 9] [(0, .w), (1, .w), (2, .r), (3, .w), (4, .w), (5, .w), (6, .r), (7, .x), (8, .w), (9, .x)] mixed (by kernel_rfl) rfl ?_
          refine Dr.w rfl rfl rfl rfl (q_move rfl) ?_
          refine Dr.w rfl rfl rfl rfl (q_fieldAddr fo_39_2 rfl rfl) ?_
          refine Dr.r rfl rfl rfl rfl (Sub.rfl' _) (q_loadA ac_30 rfl (hS.ro 6 rfl _ _ h3) (rowN_row rfl)) ?_
          refine Dr.w rfl rfl rfl rfl (q_move rfl) ?_
          refine Dr.w rfl rfl rfl rfl (q_nil rfl) ?_
          refine Dr.w rfl rfl rfl rfl (q_fieldAddr fo_65_1 rfl rfl) ?_
          refine Dr.r rfl rfl rfl rfl (Sub.rfl' _) (q_loadA ac_30 rfl hst (rowN_row rfl)) ?_
          refine Dr.x rfl rfl rfl rfl (e_callF rfl rfl rfl ca_23 ((confs_spec _ _ _ _ _).mono fun v121 τ121 h121 => ?_))
          obtain ⟨rfl, rfl⟩ := h121
          refine ⟨.inl rfl, ?_⟩
          refine Dr.w rfl rfl rfl rfl (q_le rfl rfl) ?_
          refine Dr.x rfl rfl rfl rfl (e_callF rfl rfl rfl ca_17 ((mbreaks_spec _ _ _ _ _ _ _ _ _ _ _ _ _ _ _ hS _ _).mono fun v123 τ123 h123 => ?_))
          replace hS := h123
          replace hbr := least_brk (confLe e.conf b.conf) hbr (show (1 : Int) ≤ 1 by decide) (by decide)
          refine ⟨.inl rfl, ?_⟩
          refine Dr.done ?_
          refine St.keep [113, 9, 79, 78, 77, 76, 6, 5, 4, 3, 0, 1] ?_
          show St _ _ _ [(113, _), (9, _), (79, _), (78, _), (77, _), (76, _), (6, _), (5, _), (4, _), (3, _), (0, _), (1, _)] _ _ _
          obtain ⟨a0, c0, a1, c1, cb, cl, hst, hr0, hr1, hcm, hcn⟩ := msts_at hS (k := 3) rfl hbk hb
          refine St.seq ?_
          refine St.draw0 [43, 46] [(0, .w), (1, .w), (2, .w), (3, .w), (4, .r), (5, .w), (6, .w), (7, .w), (8, .w), (9, .w), (10, .r), (11, .w), (12, .w), (13, .r), (14, .w), (15, .r), (16, .w), (17, .w), (18, .w), (19, .w), (20, .w), (21, .w), (22, .r), (23, .w), (24, .w), (25, .r), (26, .w), (27, .w), (28, .w), (29, .r), (30, .x), (31, .w), (32, .w), (33, .w), (34, .w), (35, .w), (36, .w), (37, .r), (38, .w), (39, .w), (40, .r), (41, .w), (42, .r), (43, .x), (44, .w), (45, .w), (46, .x)] mixed (by kernel_rfl) rfl ?_
          refine Dr.w rfl rfl rfl rfl (q_move rfl) ?_
          refine Dr.w rfl rfl rfl rfl (q_move rfl) ?_
          refine Dr.w rfl rfl rfl rfl (q_nil rfl) ?_
          refine Dr.w rfl rfl rfl rfl (q_fieldAddr fo_65_5 rfl rfl) ?_
          refine Dr.r rfl rfl rfl rfl (Sub.rfl' _) (q_load1 ac_63 rfl hst rfl) ?_
          refine Dr.w rfl rfl rfl rfl (QOp.eq (v' := .bool b.trans.isNone) (q_peqn Try.underlying63 rfl rfl) (by show _ = Value.bool _; cases b.trans <;> rfl)) ?_
          refine Dr.w rfl rfl rfl rfl (q_move rfl) ?_
          refine Dr.joinv 169 (.bool (transBad b.trans e)) 39 [113, 9, 79, 78, 77, 76, 6, 5, 4, 3, 0, 1, 124, 125, 126, 127, 128, 129] (fun hk14_45 => ?_) ?_
          · skip
            refine Dr.split (d := 130) rfl (fun hg130 => ?_) (fun hg130 => ?_)
            · skip
              refine Dr.skip rfl rfl rfl rfl ?_
              refine Dr.skip rfl rfl rfl rfl ?_
              refine Dr.skip rfl rfl rfl rfl ?_
              refine Dr.skip rfl rfl rfl rfl ?_
              refine Dr.skip rfl rfl rfl rfl ?_
              refine Dr.skip rfl rfl rfl rfl ?_
              refine Dr.skip rfl rfl rfl rfl ?_
              refine Dr.skip rfl rfl rfl rfl ?_
              refine Dr.skip rfl rfl rfl rfl ?_
              refine Dr.skip rfl rfl rfl rfl ?_
              refine Dr.w rfl rfl rfl rfl (q_pickT rfl rfl) ?_
              refine Dr.w rfl rfl rfl rfl (q_move rfl) ?_
              refine Dr.skip rfl rfl rfl rfl ?_
              refine Dr.skip rfl rfl rfl rfl ?_
              refine Dr.skip rfl rfl rfl rfl ?_
              refine Dr.skip rfl rfl rfl rfl ?_
              refine Dr.skip rfl rfl rfl rfl ?_
              refine Dr.skip rfl rfl rfl rfl ?_
              refine Dr.skip rfl rfl rfl rfl ?_
              refine Dr.skip rfl rfl rfl rfl ?_
              refine Dr.skip rfl rfl rfl rfl ?_
              refine Dr.skip rfl rfl rfl rfl ?_
              refine Dr.skip rfl rfl rfl rfl ?_
              refine Dr.skip rfl rfl rfl rfl ?_
              refine Dr.skip rfl rfl rfl rfl ?_
              refine Dr.w rfl rfl rfl rfl (q_pickT rfl rfl) ?_
              refine Dr.w rfl rfl rfl rfl (q_move rfl) ?_
              refine Dr.skip rfl rfl rfl rfl ?_
              refine Dr.skip rfl rfl rfl rfl ?_
              refine Dr.skip rfl rfl rfl rfl ?_
              refine Dr.skip rfl rfl rfl rfl ?_
              refine Dr.skip rfl rfl rfl rfl ?_
              refine Dr.skip rfl rfl rfl rfl ?_
              refine Dr.skip rfl rfl rfl rfl ?_
              refine Dr.skip rfl rfl rfl rfl ?_
              refine Dr.skip rfl rfl rfl rfl ?_
              refine Dr.skip rfl rfl rfl rfl ?_
              refine Dr.skip rfl rfl rfl rfl ?_
              refine Dr.w rfl rfl rfl rfl (q_pickT rfl rfl) ?_
              exact Dr.meet 40 [113, 9, 79, 78, 77, 76, 6, 5, 4, 3, 0, 1, 124, 125, 126, 127, 128, 129] hk14_45 rfl (by first | (revert hg130; cases b.trans <;> simp [transBad]; done) | (rw [hxB]; simp only [transBad, bne, hg130, Bool.true_or, Bool.false_or, Bool.or_true, Bool.or_false, Bool.not_true, Bool.not_false]; done)) rfl rfl
            · obtain ⟨⟨nB, xB⟩, hxB⟩ : ∃ r, b.trans = some r := Option.isSome_iff_exists.1 (by revert hg130; cases b.trans <;> simp)
              have hevB := hs3 _ _ (hwb.trans _ _ hxB)
              refine Dr.w rfl rfl rfl rfl (q_move rfl) ?_
              refine Dr.w rfl rfl rfl rfl (q_nil rfl) ?_
              refine Dr.w rfl rfl rfl rfl (q_fieldAddr fo_65_5 rfl rfl) ?_
              refine Dr.r rfl rfl rfl rfl (Sub.rfl' _) (QOp.eq (v' := .pointer (some ⟨nB, 0, none⟩)) (q_load1 ac_63 rfl hst rfl) (by show trp b.trans = _; rw [hxB]; rfl)) ?_
              refine Dr.w rfl rfl rfl rfl (q_nil rfl) ?_
              refine Dr.w rfl rfl rfl rfl (q_fieldAddr fo_39_3 rfl rfl) ?_
              refine Dr.r rfl rfl rfl rfl (Sub.rfl' _) (q_loadA ac_30 rfl (hS.ro 6 rfl _ _ hevB) (rowN_row rfl)) ?_
              refine Dr.w rfl rfl rfl rfl (q_fieldAddr fo_39_2 rfl rfl) ?_
              refine Dr.r rfl rfl rfl rfl (Sub.rfl' _) (q_loadA ac_30 rfl (hS.ro 6 rfl _ _ h3) (rowN_row rfl)) ?_
              refine Dr.w rfl rfl rfl rfl (q_ane rfl rfl eg_30 (eq_30 xB.new e.conf)) ?_
              refine Dr.w rfl rfl rfl rfl (q_pickF rfl rfl) ?_
              refine Dr.w rfl rfl rfl rfl (q_move rfl) ?_
              refine Dr.split (d := 142) rfl (fun hg142 => ?_) (fun hg142 => ?_)
              · skip
                refine Dr.skip rfl rfl rfl rfl ?_
                refine Dr.skip rfl rfl rfl rfl ?_
                refine Dr.skip rfl rfl rfl rfl ?_
                refine Dr.skip rfl rfl rfl rfl ?_
                refine Dr.skip rfl rfl rfl rfl ?_
                refine Dr.skip rfl rfl rfl rfl ?_
                refine Dr.skip rfl rfl rfl rfl ?_
                refine Dr.skip rfl rfl rfl rfl ?_
                refine Dr.skip rfl rfl rfl rfl ?_
                refine Dr.skip rfl rfl rfl rfl ?_
                refine Dr.skip rfl rfl rfl rfl ?_
                refine Dr.skip rfl rfl rfl rfl ?_
                refine Dr.skip rfl rfl rfl rfl ?_
                refine Dr.w rfl rfl rfl rfl (q_pickT rfl rfl) ?_
                refine Dr.w rfl rfl rfl rfl (q_move rfl) ?_
                refine Dr.skip rfl rfl rfl rfl ?_
                refine Dr.skip rfl rfl rfl rfl ?_
                refine Dr.skip rfl rfl rfl rfl ?_
                refine Dr.skip rfl rfl rfl rfl ?_
                refine Dr.skip rfl rfl rfl rfl ?_
                refine Dr.skip rfl rfl rfl rfl ?_
                refine Dr.skip rfl rfl rfl rfl ?_
                refine Dr.skip rfl rfl rfl rfl ?_
                refine Dr.skip rfl rfl rfl rfl ?_
                refine Dr.skip rfl rfl rfl rfl ?_
                refine Dr.skip rfl rfl rfl rfl ?_
                refine Dr.w rfl rfl rfl rfl (q_pickT rfl rfl) ?_
                exact Dr.meet 41 [113, 9, 79, 78, 77, 76, 6, 5, 4, 3, 0, 1, 124, 125, 126, 127, 128, 129] hk14_45 rfl (by first | (revert hg130; cases b.trans <;> simp [transBad]; done) | (rw [hxB]; simp only [transBad, bne, hg130, hg142, Bool.true_or, Bool.false_or, Bool.or_true, Bool.or_false, Bool.not_true, Bool.not_false]; done)) rfl rfl
              · skip
                refine Dr.w rfl rfl rfl rfl (q_move rfl) ?_
                refine Dr.w rfl rfl rfl rfl (q_nil rfl) ?_
                refine Dr.w rfl rfl rfl rfl (q_fieldAddr fo_65_5 rfl rfl) ?_
                refine Dr.r rfl rfl rfl rfl (Sub.rfl' _) (QOp.eq (v' := .pointer (some ⟨nB, 0, none⟩)) (q_load1 ac_63 rfl hst rfl) (by show trp b.trans = _; rw [hxB]; rfl)) ?_
                refine Dr.w rfl rfl rfl rfl (q_nil rfl) ?_
                refine Dr.w rfl rfl rfl rfl (q_fieldAddr fo_39_4 rfl rfl) ?_
                refine Dr.r rfl rfl rfl rfl (Sub.rfl' _) (q_load1 ac_28 rfl (hS.ro 6 rfl _ _ hevB) rfl) ?_
                refine Dr.w rfl rfl rfl rfl (q_move rfl) ?_
                refine Dr.w rfl rfl rfl rfl (q_nil rfl) ?_
                refine Dr.w rfl rfl rfl rfl (q_fieldAddr fo_65_2 rfl rfl) ?_
                refine Dr.r rfl rfl rfl rfl (Sub.rfl' _) (q_load1 ac_59 rfl (hS.pt 7 rfl) rfl) ?_
                refine Dr.x rfl rfl rfl rfl (e_callF rfl rfl rfl ca_24 ((in_spec _ _ _).mono fun v154 τ154 h154 => ?_))
                obtain ⟨rfl, rfl⟩ := h154
                refine ⟨.inr (Sub.rfl' _), ?_⟩
                refine Dr.w rfl rfl rfl rfl (q_not rfl) ?_
                refine Dr.w rfl rfl rfl rfl (q_pickF rfl rfl) ?_
                refine Dr.w rfl rfl rfl rfl (q_move rfl) ?_
                refine Dr.split (d := 157) rfl (fun hg157 => ?_) (fun hg157 => ?_)
                · change (!isIn xB.mem e.mem) = true at hg157
                  refine Dr.skip rfl rfl rfl rfl ?_
                  refine Dr.skip rfl rfl rfl rfl ?_
                  refine Dr.skip rfl rfl rfl rfl ?_
                  refine Dr.skip rfl rfl rfl rfl ?_
                  refine Dr.skip rfl rfl rfl rfl ?_
                  refine Dr.skip rfl rfl rfl rfl ?_
                  refine Dr.skip rfl rfl rfl rfl ?_
                  refine Dr.skip rfl rfl rfl rfl ?_
                  refine Dr.skip rfl rfl rfl rfl ?_
                  refine Dr.skip rfl rfl rfl rfl ?_
                  refine Dr.skip rfl rfl rfl rfl ?_
                  refine Dr.w rfl rfl rfl rfl (q_pickT rfl rfl) ?_
                  exact Dr.meet 42 [113, 9, 79, 78, 77, 76, 6, 5, 4, 3, 0, 1, 124, 125, 126, 127, 128, 129] hk14_45 rfl (by first | (revert hg130; cases b.trans <;> simp [transBad]; done) | (rw [hxB]; simp only [transBad, bne, hg130, hg142, hg157, Bool.true_or, Bool.false_or, Bool.or_true, Bool.or_false, Bool.not_true, Bool.not_false]; done)) rfl rfl
                · change (!isIn xB.mem e.mem) = false at hg157
                  refine Dr.w rfl rfl rfl rfl (q_move rfl) ?_
                  refine Dr.w rfl rfl rfl rfl (q_nil rfl) ?_
                  refine Dr.w rfl rfl rfl rfl (q_fieldAddr fo_65_5 rfl rfl) ?_
                  refine Dr.r rfl rfl rfl rfl (Sub.rfl' _) (QOp.eq (v' := .pointer (some ⟨nB, 0, none⟩)) (q_load1 ac_63 rfl hst rfl) (by show trp b.trans = _; rw [hxB]; rfl)) ?_
                  refine Dr.w rfl rfl rfl rfl (q_nil rfl) ?_
                  refine Dr.w rfl rfl rfl rfl (q_fieldAddr fo_39_4 rfl rfl) ?_
                  refine Dr.r rfl rfl rfl rfl (Sub.rfl' _) (q_load1 ac_28 rfl (hS.ro 6 rfl _ _ hevB) rfl) ?_
                  refine Dr.w rfl rfl rfl rfl (q_fieldAddr fo_39_1 rfl rfl) ?_
                  refine Dr.r rfl rfl rfl rfl (Sub.rfl' _) (q_load1 ac_3 rfl (hS.ro 6 rfl _ _ h3) rfl) ?_
                  refine Dr.x rfl rfl rfl rfl (e_callF rfl rfl rfl ca_22 ((has_spec _ _ _).mono fun v167 τ167 h167 => ?_))
                  obtain ⟨rfl, rfl⟩ := h167
                  refine ⟨.inl rfl, ?_⟩
                  refine Dr.w rfl rfl rfl rfl (q_not rfl) ?_
                  refine Dr.w rfl rfl rfl rfl (q_pickF rfl rfl) ?_
                  exact Dr.meet 42 [113, 9, 79, 78, 77, 76, 6, 5, 4, 3, 0, 1, 124, 125, 126, 127, 128, 129] hk14_45 rfl (by first | (revert hg130; cases b.trans <;> simp [transBad]; done) | (rw [hxB]; simp only [transBad, bne, hg130, hg142, hg157, Bool.true_or, Bool.false_or, Bool.or_true, Bool.or_false, Bool.not_true, Bool.not_false]; done)) rfl rfl
          · skip
            refine Dr.x rfl rfl rfl rfl (e_callF rfl rfl rfl ca_17 ((mbreaks_spec _ _ _ _ _ _ _ _ _ _ _ _ _ _ _ hS _ _).mono fun v170 τ170 h170 => ?_))
            replace hS := h170
            replace hbr := least_brk (transBad b.trans e) hbr (show (1 : Int) ≤ 1 by decide) (by decide)
            refine ⟨.inl rfl, ?_⟩
            refine Dr.done ?_
            refine St.keep [113, 9, 79, 78, 77, 76, 6, 5, 4, 3, 0, 1] ?_
            show St _ _ _ [(113, _), (9, _), (79, _), (78, _), (77, _), (76, _), (6, _), (5, _), (4, _), (3, _), (0, _), (1, _)] _ _ _
            refine St.region rfl ?_
            refine Reg.q rfl rfl rfl (q_move rfl) ?_
            refine Reg.q rfl rfl rfl (q_move rfl) ?_
            replace hS : Stars (_ :: _ :: _ :: _ :: _ :: _ :: _ :: _ :: _ :: rs) _ := hS.top 6 rfl
            replace hS : Stars (_ :: _ :: _ :: _ :: _ :: _ :: _ :: _ :: _ :: rs) _ := hS.top 4 rfl
            replace hS : Stars (_ :: _ :: _ :: _ :: _ :: _ :: _ :: _ :: _ :: rs) _ := hS.top 4 rfl
            replace hS : Stars (_ :: _ :: _ :: _ :: _ :: _ :: _ :: _ :: _ :: rs) _ := hS.top 3 rfl
            refine Reg.x rfl rfl rfl (e_callF rfl rfl rfl ca_25 ((mclose_spec _ ρ3 _ _ _ _ _ _ _ _ _ _ _ _ _ _ hbr bs M.stays hM.len (fun s hs => (hM.wf s hs).up hs3 (by omega)) (by omega) hS k bk b hbk hb).mono fun v173 τ173 h173 => ?_))
            obtain ⟨br2, hS, hbr⟩ := h173
            refine Reg.done ?_
            refine St.keep [113, 9, 79, 78, 77, 76, 6, 5, 4, 3, 0, 1] ?_
            show St _ _ _ [(113, _), (9, _), (79, _), (78, _), (77, _), (76, _), (6, _), (5, _), (4, _), (3, _), (0, _), (1, _)] _ _ _
            refine St.seq ?_
            refine St.draw0 [7] [(0, .w), (1, .w), (2, .w), (3, .r), (4, .w), (5, .r), (6, .w), (7, .x)] mixed (by kernel_rfl) rfl ?_
            refine Dr.w rfl rfl rfl rfl (q_move rfl) ?_
            refine Dr.w rfl rfl rfl rfl (q_nil rfl) ?_
            refine Dr.w rfl rfl rfl rfl (q_fieldAddr fo_53_2 rfl rfl) ?_
            refine Dr.r rfl rfl rfl rfl (Sub.rfl' _) (q_load1 ac_51 rfl (hS.pt 0 rfl) rfl) ?_
            refine Dr.w rfl rfl rfl rfl (q_fieldAddr fo_39_1 rfl rfl) ?_
            refine Dr.r rfl rfl rfl rfl (Sub.rfl' _) (q_load1 ac_3 rfl (hS.ro 3 rfl _ _ h3) rfl) ?_
            refine Dr.w rfl rfl rfl rfl (q_move rfl) ?_
            refine Dr.no rfl rfl rfl (e_mapUpdate Try.underlying51 key_3 rfl rfl rfl (hS.map 6 rfl) (fun τu16_7 hmu16_7 huu16_7 => ⟨.inl rfl, ?_⟩))
            replace hS : Stars (_ :: _ :: _ :: _ :: _ :: _ :: _ :: _ :: _ :: rs) _ := (hS.top 6 rfl).mapU huu16_7 hmu16_7
            refine Dr.done ?_
            refine St.keep [113, 9, 79, 78, 77, 76, 6, 5, 4, 3, 0, 1] ?_
            show St _ _ _ [(113, _), (9, _), (79, _), (78, _), (77, _), (76, _), (6, _), (5, _), (4, _), (3, _), (0, _), (1, _)] _ _ _
            refine St.region rfl ?_
            refine Reg.q rfl rfl rfl (q_move rfl) ?_
            refine Reg.q rfl rfl rfl (q_move rfl) ?_
            refine Reg.q rfl rfl rfl (q_nil rfl) ?_
            refine Reg.q rfl rfl rfl (q_fieldAddr fo_53_0 rfl rfl) ?_
            refine Reg.q rfl rfl rfl (q_fieldAddr fo_49_3 rfl rfl) ?_
            refine Reg.q rfl rfl rfl (q_load1 ac_47 rfl (hS.pt 1 rfl) rfl) ?_
            refine Reg.q rfl rfl rfl (q_move rfl) ?_
            refine Reg.x rfl rfl rfl (e_buildSlice so_47 zo_56 zr_56_1 rfl rfl rfl (fillN_fill rfl) (fun b188 τ188 hb188 => ?_))
            replace hS : Stars (_ :: _ :: _ :: _ :: _ :: _ :: _ :: _ :: _ :: _ :: rs) _ := hS.fresh hb188
            refine Reg.x rfl rfl rfl (e_append rfl Try.underlying47 Try.underlying47 sb_56 zo_56 rfl rfl rfl (hS.own 3 rfl) (Rd.lit (hS.pt 0 rfl) rfl) (.inl (by omega)) (allFlat_mem rfl) (by omega) (by omega) (fun b189 o189 c189 τ189 hf189 hu189 ho189 => ?_))
            replace hS : Stars (_ :: _ :: _ :: _ :: _ :: _ :: _ :: _ :: _ :: _ :: rs) _ := (hS.top 3 rfl).ownU hf189 hu189 ho189
            refine Reg.q rfl rfl rfl (q_nil rfl) ?_
            refine Reg.q rfl rfl rfl (q_fieldAddr fo_53_0 rfl rfl) ?_
            refine Reg.q rfl rfl rfl (q_fieldAddr fo_49_3 rfl rfl) ?_
            refine Reg.no rfl rfl (e_store rfl rfl sz_47 rfl (hS.pt 3 rfl) (Nat.le_of_ble_eq_true rfl) rfl (storeN_row rfl) (fun τs17_12 hs17_12 hu17_12 => ?_))
            replace hS : Stars (_ :: _ :: _ :: _ :: _ :: _ :: _ :: _ :: _ :: _ :: rs) _ := (hS.top 3 rfl).ptU hu17_12 hs17_12
            refine Reg.done ?_
            refine St.keep [113, 9, 79, 78, 77, 76, 6, 5, 4, 3, 0, 1] ?_
            show St _ _ _ [(113, _), (9, _), (79, _), (78, _), (77, _), (76, _), (6, _), (5, _), (4, _), (3, _), (0, _), (1, _)] _ _ _
            refine St.fin Try.func13 .nil (Sub.rfl' _) ?_
            replace hS : Stars (_ :: _ :: _ :: _ :: _ :: _ :: _ :: _ :: _ :: _ :: rs) _ := hS.top 2 rfl
            replace hS := hS.drop
            replace hS : Stars (_ :: _ :: _ :: _ :: _ :: _ :: _ :: _ :: _ :: rs) _ := hS.top 4 rfl
            replace hS : Stars (_ :: _ :: _ :: _ :: _ :: _ :: _ :: _ :: _ :: rs) _ := hS.top 3 rfl
            replace hS : Stars (_ :: _ :: _ :: _ :: _ :: _ :: _ :: _ :: _ :: rs) _ := hS.top 6 rfl
            replace hS : Stars (_ :: _ :: _ :: _ :: _ :: _ :: _ :: _ :: _ :: rs) _ := hS.top 4 rfl
            replace hS : Stars (_ :: _ :: _ :: _ :: _ :: _ :: _ :: _ :: _ :: rs) _ := hS.top 6 rfl
            replace hS : Stars (_ :: _ :: _ :: _ :: _ :: _ :: _ :: _ :: _ :: rs) _ := hS.top 5 rfl
            replace hS : Stars (_ :: _ :: _ :: _ :: _ :: _ :: _ :: _ :: _ :: rs) _ := hS.top 6 rfl
            replace hS : Stars (_ :: _ :: _ :: _ :: _ :: _ :: _ :: _ :: _ :: rs) _ := hS.top 8 rfl
            replace hS : Stars (_ :: _ :: _ :: _ :: _ :: _ :: _ :: _ :: _ :: rs) _ := hS.top 8 rfl
            replace hS := ((hS.ownNil (T := 34) (m := 6)).ownNil (T := 34) (m := 6)).top 2 rfl
            replace hS : Stars (pt b18 (.cells (mstC (MSt.new e) none 0 none 0 b16) 65 (0, 0)) :: ownA 34 6 none 0 0 [] :: ownA 34 6 none 0 0 [] :: mapA encI b16 [] :: _) _ := hS
            replace hS := msts_push (s := MSt.new e) (a0 := none) (c0 := 0) (a1 := none) (c1 := 0) (fun q => rfl) hS (by rw [List.length_set]; exact hM.len)
            replace hS := hS.top 6 rfl
            replace hS : Stars (ro ρ :: _) _ := hS.imp fun h hx => hs3.trans hx
            have hlen : (M.reg e).stays.length = M.stays.length + 1 := by rw [rs1]; simp
            obtain ⟨mm, hmm⟩ : ∃ mm, mm = hM.reg e b18 := ⟨_, rfl⟩
            refine ⟨_, some ⟨b189, o189, none⟩, c189, _, _, bs ++ [b18], ?_, hbr.trans (least_congr fun q => (rs2 q).symm), mm⟩
            rw [hlen, rs1, List.flatMap_append]
            replace hS := hS.back 6 (by simp)
            replace hS : Stars (mstsA _ _ :: _ :: _ :: _ :: _ :: _ :: ro ρ :: rs) _ := hS
            exact ((hS.top 3 rfl).top 3 rfl).top 3 rfl
        · obtain rfl : bq = none := by cases bq with | none => rfl | some bk => cases hc1
          have hn0 : M.now e.proc = none := by
            cases hn : M.now e.proc with
            | none => rfl
            | some k => rw [hn] at hbq; simp only [Option.bind_some] at hbq; have := hM.now.lt hn; rw [List.getElem?_eq_getElem this] at hbq; cases hbq
          obtain ⟨rs1, rs2⟩ := mreg_none hn0
          refine St.skip ?_
          refine St.seq ?_
          refine St.draw0 [7] [(0, .w), (1, .w), (2, .w), (3, .r), (4, .w), (5, .r), (6, .w), (7, .x)] mixed (by kernel_rfl) rfl ?_
          refine Dr.w rfl rfl rfl rfl (q_move rfl) ?_
          refine Dr.w rfl rfl rfl rfl (q_nil rfl) ?_
          refine Dr.w rfl rfl rfl rfl (q_fieldAddr fo_53_2 rfl rfl) ?_
          refine Dr.r rfl rfl rfl rfl (Sub.rfl' _) (q_load1 ac_51 rfl (hS.pt 0 rfl) rfl) ?_
          refine Dr.w rfl rfl rfl rfl (q_fieldAddr fo_39_1 rfl rfl) ?_
          refine Dr.r rfl rfl rfl rfl (Sub.rfl' _) (q_load1 ac_3 rfl (hS.ro 6 rfl _ _ h3) rfl) ?_
          refine Dr.w rfl rfl rfl rfl (q_move rfl) ?_
          refine Dr.no rfl rfl rfl (e_mapUpdate Try.underlying51 key_3 rfl rfl rfl (hS.map 5 rfl) (fun τu16_7 hmu16_7 huu16_7 => ⟨.inl rfl, ?_⟩))
          replace hS : Stars (_ :: _ :: _ :: _ :: _ :: _ :: _ :: _ :: _ :: rs) _ := (hS.top 5 rfl).mapU huu16_7 hmu16_7
          refine Dr.done ?_
          refine St.keep [113, 9, 79, 78, 77, 76, 6, 5, 4, 3, 0, 1] ?_
          show St _ _ _ [(113, _), (9, _), (79, _), (78, _), (77, _), (76, _), (6, _), (5, _), (4, _), (3, _), (0, _), (1, _)] _ _ _
          refine St.region rfl ?_
          refine Reg.q rfl rfl rfl (q_move rfl) ?_
          refine Reg.q rfl rfl rfl (q_move rfl) ?_
          refine Reg.q rfl rfl rfl (q_nil rfl) ?_
          refine Reg.q rfl rfl rfl (q_fieldAddr fo_53_0 rfl rfl) ?_
          refine Reg.q rfl rfl rfl (q_fieldAddr fo_49_3 rfl rfl) ?_
          refine Reg.q rfl rfl rfl (q_load1 ac_47 rfl (hS.pt 1 rfl) rfl) ?_
          refine Reg.q rfl rfl rfl (q_move rfl) ?_
          refine Reg.x rfl rfl rfl (e_buildSlice so_47 zo_56 zr_56_1 rfl rfl rfl (fillN_fill rfl) (fun b188 τ188 hb188 => ?_))
          replace hS : Stars (_ :: _ :: _ :: _ :: _ :: _ :: _ :: _ :: _ :: _ :: rs) _ := hS.fresh hb188
          refine Reg.x rfl rfl rfl (e_append rfl Try.underlying47 Try.underlying47 sb_56 zo_56 rfl rfl rfl (hS.own 4 rfl) (Rd.lit (hS.pt 0 rfl) rfl) (.inl (by omega)) (allFlat_mem rfl) (by omega) (by omega) (fun b189 o189 c189 τ189 hf189 hu189 ho189 => ?_))
          replace hS : Stars (_ :: _ :: _ :: _ :: _ :: _ :: _ :: _ :: _ :: _ :: rs) _ := (hS.top 4 rfl).ownU hf189 hu189 ho189
          refine Reg.q rfl rfl rfl (q_nil rfl) ?_
          refine Reg.q rfl rfl rfl (q_fieldAddr fo_53_0 rfl rfl) ?_
          refine Reg.q rfl rfl rfl (q_fieldAddr fo_49_3 rfl rfl) ?_
          refine Reg.no rfl rfl (e_store rfl rfl sz_47 rfl (hS.pt 3 rfl) (Nat.le_of_ble_eq_true rfl) rfl (storeN_row rfl) (fun τs17_12 hs17_12 hu17_12 => ?_))
          replace hS : Stars (_ :: _ :: _ :: _ :: _ :: _ :: _ :: _ :: _ :: _ :: rs) _ := (hS.top 3 rfl).ptU hu17_12 hs17_12
          refine Reg.done ?_
          refine St.keep [113, 9, 79, 78, 77, 76, 6, 5, 4, 3, 0, 1] ?_
          show St _ _ _ [(113, _), (9, _), (79, _), (78, _), (77, _), (76, _), (6, _), (5, _), (4, _), (3, _), (0, _), (1, _)] _ _ _
          refine St.fin Try.func13 .nil (Sub.rfl' _) ?_
          replace hS : Stars (_ :: _ :: _ :: _ :: _ :: _ :: _ :: _ :: _ :: _ :: rs) _ := hS.top 2 rfl
          replace hS := hS.drop
          replace hS : Stars (_ :: _ :: _ :: _ :: _ :: _ :: _ :: _ :: _ :: rs) _ := hS.top 6 rfl
          replace hS : Stars (_ :: _ :: _ :: _ :: _ :: _ :: _ :: _ :: _ :: rs) _ := hS.top 3 rfl
          replace hS : Stars (_ :: _ :: _ :: _ :: _ :: _ :: _ :: _ :: _ :: rs) _ := hS.top 6 rfl
          replace hS : Stars (_ :: _ :: _ :: _ :: _ :: _ :: _ :: _ :: _ :: rs) _ := hS.top 4 rfl
          replace hS : Stars (_ :: _ :: _ :: _ :: _ :: _ :: _ :: _ :: _ :: rs) _ := hS.top 5 rfl
          replace hS : Stars (_ :: _ :: _ :: _ :: _ :: _ :: _ :: _ :: _ :: rs) _ := hS.top 5 rfl
          replace hS : Stars (_ :: _ :: _ :: _ :: _ :: _ :: _ :: _ :: _ :: rs) _ := hS.top 6 rfl
          replace hS : Stars (_ :: _ :: _ :: _ :: _ :: _ :: _ :: _ :: _ :: rs) _ := hS.top 8 rfl
          replace hS : Stars (_ :: _ :: _ :: _ :: _ :: _ :: _ :: _ :: _ :: rs) _ := hS.top 8 rfl
          replace hS := ((hS.ownNil (T := 34) (m := 6)).ownNil (T := 34) (m := 6)).top 2 rfl
          replace hS : Stars (pt b18 (.cells (mstC (MSt.new e) none 0 none 0 b16) 65 (0, 0)) :: ownA 34 6 none 0 0 [] :: ownA 34 6 none 0 0 [] :: mapA encI b16 [] :: _) _ := hS
          replace hS := msts_push (s := MSt.new e) (a0 := none) (c0 := 0) (a1 := none) (c1 := 0) (fun q => rfl) hS hM.len
          replace hS := hS.top 6 rfl
          replace hS : Stars (ro ρ :: _) _ := hS.imp fun h hx => hs3.trans hx
          have hlen : (M.reg e).stays.length = M.stays.length + 1 := by rw [rs1]; simp
          obtain ⟨mm, hmm⟩ : ∃ mm, mm = hM.reg e b18 := ⟨_, rfl⟩
          refine ⟨_, some ⟨b189, o189, none⟩, c189, _, _, bs ++ [b18], ?_, hbr.trans (least_congr fun q => (rs2 q).symm), mm⟩
          rw [hlen, rs1, List.flatMap_append]
          replace hS := hS.back 6 (by simp)
          replace hS : Stars (mstsA _ _ :: _ :: _ :: _ :: _ :: _ :: ro ρ :: rs) _ := hS
          exact ((hS.top 3 rfl).top 3 rfl).top 3 rfl
end Go.Proofs.Ytdgdbnkhmdncdaa
