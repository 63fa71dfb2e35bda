/- The monitor: the stay of an event; a stay went on. -/
import Derived.Test.YtdgdbnkhmdncdaaM1
set_option linter.unusedSectionVars false
set_option linter.unusedSimpArgs false
set_option linter.unusedVariables false
namespace Go.Proofs.Ytdgdbnkhmdncdaa
open Go.Gw Go.Cs
variable [Env]
set_option maxHeartbeats 1000000
namespace FM2
theorem ac_28 : aggCells Try.prog 28 = some none := by kernel_rfl
theorem ac_3 : aggCells Try.prog 3 = some none := by kernel_rfl
theorem ac_30 : aggCells Try.prog 30 = some (some 2) := by kernel_rfl
theorem ac_4 : aggCells Try.prog 4 = some none := by kernel_rfl
theorem ac_47 : aggCells Try.prog 47 = some none := by kernel_rfl
theorem ac_50 : aggCells Try.prog 50 = some none := by kernel_rfl
theorem ac_51 : aggCells Try.prog 51 = some none := by kernel_rfl
theorem ac_56 : aggCells Try.prog 56 = some none := by kernel_rfl
theorem ac_59 : aggCells Try.prog 59 = some none := by kernel_rfl
theorem ac_60 : aggCells Try.prog 60 = some none := by kernel_rfl
theorem ac_63 : aggCells Try.prog 63 = some none := by kernel_rfl
theorem ae_61 : arrElem Try.prog 61 = some (2, 1) := by kernel_rfl
theorem ca_17 : callable Try.prog 17 = true := by kernel_rfl
theorem ca_26 : callable Try.prog 26 = true := by kernel_rfl
theorem ca_30 : callable Try.prog 30 = true := by kernel_rfl
theorem ca_36 : callable Try.prog 36 = true := by kernel_rfl
theorem eg_113 : Try.prog.eqGuardType Try.prog.depth 113 = false := by kernel_rfl
theorem eg_30 : Try.prog.eqGuardType Try.prog.depth 30 = false := by kernel_rfl
theorem fo_39_1 : fieldOff Try.prog 39 1 = some 1 := by kernel_rfl
theorem fo_39_2 : fieldOff Try.prog 39 2 = some 2 := by kernel_rfl
theorem fo_39_3 : fieldOff Try.prog 39 3 = some 4 := by kernel_rfl
theorem fo_39_4 : fieldOff Try.prog 39 4 = some 6 := by kernel_rfl
theorem fo_49_3 : fieldOff Try.prog 49 3 = some 3 := by kernel_rfl
theorem fo_53_0 : fieldOff Try.prog 53 0 = some 0 := by kernel_rfl
theorem fo_53_1 : fieldOff Try.prog 53 1 = some 4 := by kernel_rfl
theorem fo_53_2 : fieldOff Try.prog 53 2 = some 5 := by kernel_rfl
theorem fo_65_0 : fieldOff Try.prog 65 0 = some 0 := by kernel_rfl
theorem fo_65_1 : fieldOff Try.prog 65 1 = some 1 := by kernel_rfl
theorem fo_65_2 : fieldOff Try.prog 65 2 = some 3 := by kernel_rfl
theorem fo_65_3 : fieldOff Try.prog 65 3 = some 4 := by kernel_rfl
theorem fo_65_5 : fieldOff Try.prog 65 5 = some 7 := by kernel_rfl
theorem fo_65_6 : fieldOff Try.prog 65 6 = some 8 := by kernel_rfl
theorem pl_113 : places Try.prog 113 = some #[(0, 2), (2, 2)] := by kernel_rfl
theorem se_47 : sliceElem Try.prog 47 = some 1 := by kernel_rfl
theorem sz_4 : szOf Try.prog 4 = some 1 := by kernel_rfl
theorem sz_65 : szOf Try.prog 65 = some 9 := by kernel_rfl
theorem zo_113 : zeroOf Try.prog 113 = some #[.int .u64 0, .int .i64 0, .int .u64 0, .int .i64 0] := by kernel_rfl
theorem zv_4 : zeroV Try.prog 4 = some (.bool false) := by kernel_rfl
theorem zv_56 : zeroV Try.prog 56 = some (.pointer none) := by kernel_rfl
end FM2
open FM2

theorem mstay_none (σ ρ : Heap) (rs : List Asr) (tb sb eb mb sn sc lb nb : Nat) (sp : Option Addr) (len at_ rule : Int) (br : Int) (f : Int → Bool) (hbr : br = least f) (bs : List Nat) (M : MTr) (sl : List (Who × Value)) (ml : List (Conf × Value)) (lal nal : List (Int × Value)) (N : Nat) (hM : MIs ρ 39 bs M sl ml lal nal N) (hS : Stars (pt tb (.cells (monC sb eb mb sp sn sc lb nb br len at_ rule) 53 (0, 0)) :: mapA encI lb lal :: mapA encI nb nal :: mstsA bs M.stays :: ro ρ :: rs) σ) (e : Ev) (hn : M.now e.proc = none) : Does Try.prog 16 #[.pointer (some ⟨tb, 0, none⟩), e.v] σ (fun v τ => ∃ br', v = blk ((M.stayAt e).bind fun x => bs[x.1]?) ∧ Stars (pt tb (.cells (monC sb eb mb sp sn sc lb nb br' len at_ rule) 53 (0, 0)) :: mapA encI lb lal :: mapA encI nb nal :: mstsA bs M.stays :: ro ρ :: rs) τ ∧ br' = least (fun q => f q || (q == 1 && (M.stayAt e).isNone))) := by
  refine Does.enter (n := 37) (l := [(0, _), (1, _)]) Try.func16 rfl rfl (by simp) rfl ?_
  refine St.seq ?_
  refine St.region rfl ?_
  refine Reg.x rfl rfl rfl (e_box rfl (cellsN_eq rfl) (fun b3 τ3 hb3 => ?_))
  replace hS : Stars (_ :: _ :: _ :: _ :: _ :: _ :: rs) _ := hS.fresh hb3
  refine Reg.q rfl rfl rfl (q_assign rfl) ?_
  refine Reg.done ?_
  refine St.keep [0, 1, 3, 4] ?_
  show St _ _ _ [(4, _), (3, _), (0, _), (1, _)] _ _ _
  refine St.seq ?_
  refine St.draw0 [] [(0, .w), (1, .w), (2, .w), (3, .r), (4, .w), (5, .r), (6, .r), (7, .w)] mixed (by kernel_rfl) rfl ?_
  refine Dr.w rfl rfl rfl rfl (q_move rfl) ?_
  refine Dr.w rfl rfl rfl rfl (q_nil rfl) ?_
  refine Dr.w rfl rfl rfl rfl (q_fieldAddr fo_53_2 rfl rfl) ?_
  refine Dr.r rfl rfl rfl rfl (Sub.rfl' _) (q_load1 ac_51 rfl (hS.pt 1 rfl) rfl) ?_
  refine Dr.w rfl rfl rfl rfl (q_fieldAddr fo_39_1 rfl rfl) ?_
  refine Dr.r rfl rfl rfl rfl (Sub.rfl' _) (q_load1 ac_3 rfl (hS.pt 0 rfl) rfl) ?_
  refine Dr.r rfl rfl rfl rfl (Sub.rfl' _) (q_lookup Try.underlying51 key_3 zv_56 rfl rfl (hS.map 3 rfl) ((hM.now.get e.proc).trans (show _ = Value.pointer none by rw [hn]; rfl))) ?_
  refine Dr.w rfl rfl rfl rfl (q_assign rfl) ?_
  refine Dr.done ?_
  refine St.keep [4, 3, 0, 1, 5] ?_
  show St _ _ _ [(5, _), (4, _), (3, _), (0, _), (1, _)] _ _ _
  refine St.seq ?_
  refine St.seq ?_
  refine St.draw0 [] [(0, .w), (1, .w), (2, .w), (3, .r), (4, .w), (5, .r), (6, .r), (7, .w), (8, .w), (9, .w), (10, .w), (11, .w), (12, .w), (13, .w), (14, .w), (15, .w), (16, .r), (17, .w), (18, .r), (19, .w), (20, .w)] mixed (by kernel_rfl) rfl ?_
  refine Dr.w rfl rfl rfl rfl (q_move rfl) ?_
  refine Dr.w rfl rfl rfl rfl (q_nil rfl) ?_
  refine Dr.w rfl rfl rfl rfl (q_fieldAddr fo_53_1 rfl rfl) ?_
  refine Dr.r rfl rfl rfl rfl (Sub.rfl' _) (q_load1 ac_50 rfl (hS.pt 1 rfl) rfl) ?_
  refine Dr.w rfl rfl rfl rfl (q_fieldAddr fo_39_1 rfl rfl) ?_
  refine Dr.r rfl rfl rfl rfl (Sub.rfl' _) (q_load1 ac_3 rfl (hS.pt 0 rfl) rfl) ?_
  refine Dr.r rfl rfl rfl rfl (Sub.rfl' _) (q_lookup Try.underlying50 key_3 zv_4 rfl rfl (hS.map 2 rfl) (hM.live e.proc)) ?_
  refine Dr.w rfl rfl rfl rfl (q_not rfl) ?_
  refine Dr.w rfl rfl rfl rfl (q_move rfl) ?_
  refine Dr.joinv 33 (.bool (true)) 12 [5, 4, 3, 0, 1, 13, 14, 15, 16, 17, 18, 19, 20] (fun hk2_20 => ?_) ?_
  · skip
    refine Dr.split (d := 21) rfl (fun hg21 => ?_) (fun hg21 => ?_)
    · skip
      refine Dr.skip rfl rfl rfl rfl ?_
      refine Dr.skip rfl rfl rfl rfl ?_
      refine Dr.w rfl rfl rfl rfl (q_pickT rfl rfl) ?_
      refine Dr.w rfl rfl rfl rfl (q_move rfl) ?_
      refine Dr.skip rfl rfl rfl rfl ?_
      refine Dr.skip rfl rfl rfl rfl ?_
      refine Dr.skip rfl rfl rfl rfl ?_
      refine Dr.skip rfl rfl rfl rfl ?_
      refine Dr.skip rfl rfl rfl rfl ?_
      refine Dr.skip rfl rfl rfl rfl ?_
      refine Dr.skip rfl rfl rfl rfl ?_
      refine Dr.w rfl rfl rfl rfl (q_pickT rfl rfl) ?_
      exact Dr.meet 13 [5, 4, 3, 0, 1, 13, 14, 15, 16, 17, 18, 19, 20] hk2_20 rfl (by first | rfl | simp) rfl rfl
    · skip
      refine Dr.w rfl rfl rfl rfl (q_move rfl) ?_
      refine Dr.w rfl rfl rfl rfl (QOp.eq (v' := .bool true) (q_peqn Try.underlying56 rfl rfl) rfl) ?_
      refine Dr.w rfl rfl rfl rfl (q_pickF rfl rfl) ?_
      refine Dr.w rfl rfl rfl rfl (q_move rfl) ?_
      refine Dr.split (d := 25) rfl (fun hg25 => ?_) (fun hg25 => ?_)
      · skip
        refine Dr.skip rfl rfl rfl rfl ?_
        refine Dr.skip rfl rfl rfl rfl ?_
        refine Dr.skip rfl rfl rfl rfl ?_
        refine Dr.skip rfl rfl rfl rfl ?_
        refine Dr.skip rfl rfl rfl rfl ?_
        refine Dr.skip rfl rfl rfl rfl ?_
        refine Dr.skip rfl rfl rfl rfl ?_
        refine Dr.w rfl rfl rfl rfl (q_pickT rfl rfl) ?_
        exact Dr.meet 14 [5, 4, 3, 0, 1, 13, 14, 15, 16, 17, 18, 19, 20] hk2_20 rfl (by first | rfl | simp) rfl rfl
      · exact absurd hg25 (by simp) -- PRUNE
  · skip
    refine Dr.done ?_
    refine St.keep [5, 4, 3, 0, 1, 33] ?_
    show St _ _ _ [(33, _), (5, _), (4, _), (3, _), (0, _), (1, _)] _ _ _
    refine St.condT rfl ?_
    refine St.seq ?_
    refine St.region rfl ?_
    refine Reg.q rfl rfl rfl (q_move rfl) ?_
    replace hS : Stars (_ :: _ :: _ :: _ :: _ :: _ :: rs) _ := hS.top 1 rfl
    refine Reg.x rfl rfl rfl (e_callF rfl rfl rfl ca_17 ((mbreaks_spec _ _ _ _ _ _ _ _ _ _ _ _ _ _ _ hS _ _).mono fun v35 τ35 h35 => ?_))
    replace hS := h35
    refine Reg.done ?_
    refine St.keep [33, 5, 4, 3, 0, 1] ?_
    show St _ _ _ [(33, _), (5, _), (4, _), (3, _), (0, _), (1, _)] _ _ _
    refine St.seq ?_
    refine St.region rfl ?_
    refine Reg.q rfl rfl rfl (q_assign rfl) ?_
    refine Reg.done ?_
    refine St.keep [33, 5, 4, 3, 0, 1] ?_
    show St _ _ _ [(4, _), (33, _), (5, _), (4, _), (3, _), (0, _), (1, _)] _ _ _
    refine St.ret Try.func16 (.tmp rfl .nil) (Sub.rfl' _) ?_
    replace hS : Stars (_ :: _ :: _ :: _ :: _ :: _ :: rs) _ := hS.top 1 rfl
    replace hS := hS.drop
    have e0 : M.stayAt e = none := stayAt_none hn
    exact ⟨_, by rw [e0]; rfl, hS, by rw [e0]; exact least_brk true hbr (by decide) (by decide)⟩

theorem mstay_some (σ ρ : Heap) (rs : List Asr) (tb sb eb mb sn sc lb nb : Nat) (sp : Option Addr) (len at_ rule : Int) (br : Int) (f : Int → Bool) (hbr : br = least f) (bs : List Nat) (M : MTr) (sl : List (Who × Value)) (ml : List (Conf × Value)) (lal nal : List (Int × Value)) (N : Nat) (hM : MIs ρ 39 bs M sl ml lal nal N) (hS : Stars (pt tb (.cells (monC sb eb mb sp sn sc lb nb br len at_ rule) 53 (0, 0)) :: mapA encI lb lal :: mapA encI nb nal :: mstsA bs M.stays :: ro ρ :: rs) σ) (e : Ev) (k bk : Nat) (s : MSt) (hn : M.now e.proc = some k) (hbk : bs[k]? = some bk) (hs : M.stays[k]? = some s) : Does Try.prog 16 #[.pointer (some ⟨tb, 0, none⟩), e.v] σ (fun v τ => ∃ br', v = blk ((M.stayAt e).bind fun x => bs[x.1]?) ∧ Stars (pt tb (.cells (monC sb eb mb sp sn sc lb nb br' len at_ rule) 53 (0, 0)) :: mapA encI lb lal :: mapA encI nb nal :: mstsA bs M.stays :: ro ρ :: rs) τ ∧ br' = least (fun q => f q || (q == 1 && (M.stayAt e).isNone))) := by
  refine Does.enter (n := 37) (l := [(0, _), (1, _)]) Try.func16 rfl rfl (by simp) rfl ?_
  refine St.seq ?_
  refine St.region rfl ?_
  refine Reg.x rfl rfl rfl (e_box rfl (cellsN_eq rfl) (fun b3 τ3 hb3 => ?_))
  replace hS : Stars (_ :: _ :: _ :: _ :: _ :: _ :: rs) _ := hS.fresh hb3
  refine Reg.q rfl rfl rfl (q_assign rfl) ?_
  refine Reg.done ?_
  refine St.keep [0, 1, 3, 4] ?_
  show St _ _ _ [(4, _), (3, _), (0, _), (1, _)] _ _ _
  refine St.seq ?_
  refine St.draw0 [] [(0, .w), (1, .w), (2, .w), (3, .r), (4, .w), (5, .r), (6, .r), (7, .w)] mixed (by kernel_rfl) rfl ?_
  refine Dr.w rfl rfl rfl rfl (q_move rfl) ?_
  refine Dr.w rfl rfl rfl rfl (q_nil rfl) ?_
  refine Dr.w rfl rfl rfl rfl (q_fieldAddr fo_53_2 rfl rfl) ?_
  refine Dr.r rfl rfl rfl rfl (Sub.rfl' _) (q_load1 ac_51 rfl (hS.pt 1 rfl) rfl) ?_
  refine Dr.w rfl rfl rfl rfl (q_fieldAddr fo_39_1 rfl rfl) ?_
  refine Dr.r rfl rfl rfl rfl (Sub.rfl' _) (q_load1 ac_3 rfl (hS.pt 0 rfl) rfl) ?_
  refine Dr.r rfl rfl rfl rfl (Sub.rfl' _) (q_lookup Try.underlying51 key_3 zv_56 rfl rfl (hS.map 3 rfl) ((hM.now.get e.proc).trans (show _ = Value.pointer (some ⟨bk, 0, none⟩) by rw [hn, Option.bind_some, hbk]; rfl))) ?_
  refine Dr.w rfl rfl rfl rfl (q_assign rfl) ?_
  refine Dr.done ?_
  refine St.keep [4, 3, 0, 1, 5] ?_
  show St _ _ _ [(5, _), (4, _), (3, _), (0, _), (1, _)] _ _ _
  obtain ⟨a0, c0, a1, c1, cb, cl, hst, hr0, hr1, hcm, hcn⟩ := msts_at hS (k := 4) rfl hbk hs
  refine St.seq ?_
  refine St.seq ?_
  refine St.draw0 [] [(0, .w), (1, .w), (2, .w), (3, .r), (4, .w), (5, .r), (6, .r), (7, .w), (8, .w), (9, .w), (10, .w), (11, .w), (12, .w), (13, .w), (14, .w), (15, .w), (16, .r), (17, .w), (18, .r), (19, .w), (20, .w)] mixed (by kernel_rfl) rfl ?_
  refine Dr.w rfl rfl rfl rfl (q_move rfl) ?_
  refine Dr.w rfl rfl rfl rfl (q_nil rfl) ?_
  refine Dr.w rfl rfl rfl rfl (q_fieldAddr fo_53_1 rfl rfl) ?_
  refine Dr.r rfl rfl rfl rfl (Sub.rfl' _) (q_load1 ac_50 rfl (hS.pt 1 rfl) rfl) ?_
  refine Dr.w rfl rfl rfl rfl (q_fieldAddr fo_39_1 rfl rfl) ?_
  refine Dr.r rfl rfl rfl rfl (Sub.rfl' _) (q_load1 ac_3 rfl (hS.pt 0 rfl) rfl) ?_
  refine Dr.r rfl rfl rfl rfl (Sub.rfl' _) (q_lookup Try.underlying50 key_3 zv_4 rfl rfl (hS.map 2 rfl) (hM.live e.proc)) ?_
  refine Dr.w rfl rfl rfl rfl (q_not rfl) ?_
  refine Dr.w rfl rfl rfl rfl (q_move rfl) ?_
  refine Dr.joinv 33 (.bool (!M.live e.proc || s.conf != e.conf)) 12 [5, 4, 3, 0, 1, 13, 14, 15, 16, 17, 18, 19, 20] (fun hk2_20 => ?_) ?_
  · skip
    refine Dr.split (d := 21) rfl (fun hg21 => ?_) (fun hg21 => ?_)
    · skip
      refine Dr.skip rfl rfl rfl rfl ?_
      refine Dr.skip rfl rfl rfl rfl ?_
      refine Dr.w rfl rfl rfl rfl (q_pickT rfl rfl) ?_
      refine Dr.w rfl rfl rfl rfl (q_move rfl) ?_
      refine Dr.skip rfl rfl rfl rfl ?_
      refine Dr.skip rfl rfl rfl rfl ?_
      refine Dr.skip rfl rfl rfl rfl ?_
      refine Dr.skip rfl rfl rfl rfl ?_
      refine Dr.skip rfl rfl rfl rfl ?_
      refine Dr.skip rfl rfl rfl rfl ?_
      refine Dr.skip rfl rfl rfl rfl ?_
      refine Dr.w rfl rfl rfl rfl (q_pickT rfl rfl) ?_
      exact Dr.meet 13 [5, 4, 3, 0, 1, 13, 14, 15, 16, 17, 18, 19, 20] hk2_20 rfl (by simp only [hg21, bne, Bool.true_or, Bool.false_or]) rfl rfl
    · skip
      refine Dr.w rfl rfl rfl rfl (q_move rfl) ?_
      refine Dr.w rfl rfl rfl rfl (QOp.eq (v' := .bool false) (q_peqn Try.underlying56 rfl rfl) rfl) ?_
      refine Dr.w rfl rfl rfl rfl (q_pickF rfl rfl) ?_
      refine Dr.w rfl rfl rfl rfl (q_move rfl) ?_
      refine Dr.split (d := 25) rfl (fun hg25 => ?_) (fun hg25 => ?_)
      · skip
        refine Dr.skip rfl rfl rfl rfl ?_
        refine Dr.skip rfl rfl rfl rfl ?_
        refine Dr.skip rfl rfl rfl rfl ?_
        refine Dr.skip rfl rfl rfl rfl ?_
        refine Dr.skip rfl rfl rfl rfl ?_
        refine Dr.skip rfl rfl rfl rfl ?_
        refine Dr.skip rfl rfl rfl rfl ?_
        refine Dr.w rfl rfl rfl rfl (q_pickT rfl rfl) ?_
        exact Dr.meet 14 [5, 4, 3, 0, 1, 13, 14, 15, 16, 17, 18, 19, 20] hk2_20 rfl (by simp only [hg21, hg25, bne, Bool.true_or, Bool.false_or]) rfl rfl
      · skip
        refine Dr.w rfl rfl rfl rfl (q_move rfl) ?_
        refine Dr.w rfl rfl rfl rfl (q_nil rfl) ?_
        refine Dr.w rfl rfl rfl rfl (q_fieldAddr fo_65_1 rfl rfl) ?_
        refine Dr.r rfl rfl rfl rfl (Sub.rfl' _) (q_loadA ac_30 rfl hst (rowN_row rfl)) ?_
        refine Dr.w rfl rfl rfl rfl (q_fieldAddr fo_39_2 rfl rfl) ?_
        refine Dr.r rfl rfl rfl rfl (Sub.rfl' _) (q_loadA ac_30 rfl (hS.pt 0 rfl) (rowN_row rfl)) ?_
        refine Dr.w rfl rfl rfl rfl (q_ane rfl rfl eg_30 (eq_30 s.conf e.conf)) ?_
        refine Dr.w rfl rfl rfl rfl (q_pickF rfl rfl) ?_
        exact Dr.meet 14 [5, 4, 3, 0, 1, 13, 14, 15, 16, 17, 18, 19, 20] hk2_20 rfl (by simp only [hg21, hg25, bne, Bool.true_or, Bool.false_or]) rfl rfl
  · skip
    refine Dr.done ?_
    refine St.keep [5, 4, 3, 0, 1, 33] ?_
    show St _ _ _ [(33, _), (5, _), (4, _), (3, _), (0, _), (1, _)] _ _ _
    refine St.cond rfl (fun hc0 => ?_) (fun hc0 => ?_)
    · skip
      refine St.seq ?_
      refine St.region rfl ?_
      refine Reg.q rfl rfl rfl (q_move rfl) ?_
      replace hS : Stars (_ :: _ :: _ :: _ :: _ :: _ :: rs) _ := hS.top 1 rfl
      refine Reg.x rfl rfl rfl (e_callF rfl rfl rfl ca_17 ((mbreaks_spec _ _ _ _ _ _ _ _ _ _ _ _ _ _ _ hS _ _).mono fun v35 τ35 h35 => ?_))
      replace hS := h35
      refine Reg.done ?_
      refine St.keep [33, 5, 4, 3, 0, 1] ?_
      show St _ _ _ [(33, _), (5, _), (4, _), (3, _), (0, _), (1, _)] _ _ _
      refine St.seq ?_
      refine St.region rfl ?_
      refine Reg.q rfl rfl rfl (q_assign rfl) ?_
      refine Reg.done ?_
      refine St.keep [33, 5, 4, 3, 0, 1] ?_
      show St _ _ _ [(4, _), (33, _), (5, _), (4, _), (3, _), (0, _), (1, _)] _ _ _
      refine St.ret Try.func16 (.tmp rfl .nil) (Sub.rfl' _) ?_
      replace hS : Stars (_ :: _ :: _ :: _ :: _ :: _ :: rs) _ := hS.top 1 rfl
      replace hS := hS.drop
      have e0 : M.stayAt e = none := stayAt_bad hn hs hc0
      exact ⟨_, by rw [e0]; rfl, hS, by rw [e0]; exact least_brk true hbr (by decide) (by decide)⟩
    · skip
      refine St.skip ?_
      refine St.seq ?_
      refine St.region rfl ?_
      refine Reg.q rfl rfl rfl (q_move rfl) ?_
      refine Reg.q rfl rfl rfl (q_assign rfl) ?_
      refine Reg.done ?_
      refine St.keep [33, 5, 4, 3, 0, 1] ?_
      show St _ _ _ [(4, _), (33, _), (5, _), (4, _), (3, _), (0, _), (1, _)] _ _ _
      refine St.ret Try.func16 (.tmp rfl .nil) (Sub.rfl' _) ?_
      replace hS := hS.drop
      have e0 : M.stayAt e = some (k, s) := stayAt_some hn hs hc0
      exact ⟨_, by rw [e0]; show _ = blk (bs[k]?); rw [hbk]; rfl, hS, hbr.trans (least_congr fun q => by rw [e0]; simp)⟩

theorem mstay_spec (σ ρ : Heap) (rs : List Asr) (tb sb eb mb sn sc lb nb : Nat) (sp : Option Addr) (len at_ rule : Int) (br : Int) (f : Int → Bool) (hbr : br = least f) (bs : List Nat) (M : MTr) (sl : List (Who × Value)) (ml : List (Conf × Value)) (lal nal : List (Int × Value)) (N : Nat) (hM : MIs ρ 39 bs M sl ml lal nal N) (hS : Stars (pt tb (.cells (monC sb eb mb sp sn sc lb nb br len at_ rule) 53 (0, 0)) :: mapA encI lb lal :: mapA encI nb nal :: mstsA bs M.stays :: ro ρ :: rs) σ) (e : Ev) : Does Try.prog 16 #[.pointer (some ⟨tb, 0, none⟩), e.v] σ (fun v τ => ∃ br', v = blk ((M.stayAt e).bind fun x => bs[x.1]?) ∧ Stars (pt tb (.cells (monC sb eb mb sp sn sc lb nb br' len at_ rule) 53 (0, 0)) :: mapA encI lb lal :: mapA encI nb nal :: mstsA bs M.stays :: ro ρ :: rs) τ ∧ br' = least (fun q => f q || (q == 1 && (M.stayAt e).isNone))) := by
  cases hn : M.now e.proc with
  | none => exact mstay_none σ ρ rs tb sb eb mb sn sc lb nb sp len at_ rule br f hbr bs M sl ml lal nal N hM hS e hn
  | some k =>
    obtain ⟨bk, hbk⟩ := hM.now.some hn
    have hlt : k < M.stays.length := by rw [← hM.len]; exact (List.getElem?_eq_some_iff.1 hbk).1
    exact mstay_some σ ρ rs tb sb eb mb sn sc lb nb sp len at_ rule br f hbr bs M sl ml lal nal N hM hS e k bk _ hn hbk (List.getElem?_eq_getElem hlt)

theorem mclose_spec (σ ρ : Heap) (rs : List Asr) (tb sb eb mb sc lb nb : Nat) (sp : Option Addr) (len at_ rule : Int) (br : Int) (f : Int → Bool) (hbr : br = least f) (bs : List Nat) (ss : List MSt) (hlen : bs.length = ss.length) (hwf : ∀ s ∈ ss, s.wf ρ 39 100000) (hfew : ss.length ≤ 100000) (hS : Stars (pt tb (.cells (monC sb eb mb sp ss.length sc lb nb br len at_ rule) 53 (0, 0)) :: ownA 56 1 sp ss.length sc (bs.flatMap ptrC) :: mstsA bs ss :: ro ρ :: rs) σ) (k bk : Nat) (b : MSt) (hbk : bs[k]? = some bk) (hb : ss[k]? = some b) : Does Try.prog 25 #[.pointer (some ⟨tb, 0, none⟩), .pointer (some ⟨bk, 0, none⟩)] σ (fun v τ => ∃ br', Stars (pt tb (.cells (monC sb eb mb sp ss.length sc lb nb br' len at_ rule) 53 (0, 0)) :: ownA 56 1 sp ss.length sc (bs.flatMap ptrC) :: mstsA bs (ss.set k ({ b with went := true } : MSt)) :: ro ρ :: rs) τ ∧ br' = least (fun q => (f q || (q == 6 && (ss.set k ({ b with went := true } : MSt)).any (clo6 ({ b with went := true } : MSt)))) || (q == 5 && (ss.set k ({ b with went := true } : MSt)).any (clo5 ({ b with went := true } : MSt))))) := by
  refine Does.enter (n := 170) (l := [(0, _), (1, _)]) Try.func25 rfl rfl (by simp) rfl ?_
  have hklt : k < ss.length := (List.getElem?_eq_some_iff.1 hb).1
  replace hS : Stars (_ :: _ :: _ :: _ :: rs) _ := hS.top 2 rfl
  obtain ⟨a0, c0, a1, c1, cb, cl, hcn, hS'⟩ := msts_open hS hbk hb
  replace hS := hS'
  refine St.seq ?_
  refine St.region rfl ?_
  refine Reg.q rfl rfl rfl (q_move rfl) ?_
  refine Reg.q rfl rfl rfl (q_nil rfl) ?_
  refine Reg.q rfl rfl rfl (q_fieldAddr fo_65_6 rfl rfl) ?_
  refine Reg.no rfl rfl (e_store rfl rfl sz_4 rfl (hS.pt 0 rfl) (Nat.le_of_ble_eq_true rfl) rfl (storeN_row rfl) (fun τs0_3 hs0_3 hu0_3 => ?_))
  replace hS : Stars (_ :: _ :: _ :: _ :: _ :: _ :: _ :: _ :: rs) _ := (hS.top 0 rfl).ptU hu0_3 hs0_3
  refine Reg.done ?_
  refine St.keep [0, 1] ?_
  show St _ _ _ [(0, _), (1, _)] _ _ _
  replace hS := msts_close (s := { b with went := true }) hcn hS hbk hklt
  replace hS : Stars (_ :: _ :: _ :: _ :: rs) _ := hS.top 3 rfl
  replace hS : Stars (_ :: _ :: _ :: _ :: rs) _ := hS.top 1 rfl
  replace hS : Stars (_ :: _ :: _ :: _ :: rs) _ := hS.top 3 rfl
  obtain ⟨ρ1, hρ, hS'⟩ := (hS.fold 3).fix
  replace hS := hS'
  replace hS : Stars (_ :: _ :: rs) _ := hS.top 1 rfl
  replace hρ : Stars [_, _, _] ρ1 := hρ
  have hsr := hρ.ro 2 rfl
  have hrd := (hρ.own 0 rfl).rd
  obtain ⟨b1, hb1⟩ : ∃ b1 : MSt, b1 = { b with went := true } := ⟨_, rfl⟩
  rw [← hb1] at hρ ⊢
  obtain ⟨ss1, hss⟩ : ∃ ss1, ss1 = ss.set k b1 := ⟨_, rfl⟩
  rw [← hss] at hρ ⊢
  have hl1 : ss1.length = ss.length := by rw [hss, List.length_set]
  have hkb : ss1[k]? = some b1 := by rw [hss, List.getElem?_set]; simp [hklt]
  have hwf1 : ∀ s ∈ ss1, s.wf ρ 39 100000 := fun s hs => by
    rw [hss] at hs
    rcases List.mem_or_eq_of_mem_set hs with h | h
    · exact hwf s h
    · subst h; subst hb1; have h0 := hwf b (List.mem_of_getElem? hb); exact ⟨h0.trans, h0.ok0, h0.ok1, h0.few⟩
  have hwb := hwf1 b1 (List.mem_of_getElem? hkb)
  obtain ⟨ab0, cb0, ab1, cb1, cbb, clb, hstb, hrb0, hrb1, _, _⟩ := msts_at hρ (k := 1) rfl hbk hkb
  refine St.seq ?_
  refine St.region rfl ?_
  refine Reg.q rfl rfl rfl (q_move rfl) ?_
  refine Reg.q rfl rfl rfl (q_nil rfl) ?_
  refine Reg.q rfl rfl rfl (q_fieldAddr fo_53_0 rfl rfl) ?_
  refine Reg.q rfl rfl rfl (q_fieldAddr fo_49_3 rfl rfl) ?_
  refine Reg.q rfl rfl rfl (q_load1 ac_47 rfl (hS.pt 0 rfl) rfl) ?_
  refine Reg.q rfl rfl rfl (q_lenS rfl se_47 rfl) ?_
  refine Reg.q rfl rfl rfl (q_move rfl) ?_
  refine Reg.done ?_
  refine St.keep [0, 1, 13, 14, 15] ?_
  show St _ _ _ [(15, _), (14, _), (13, _), (0, _), (1, _)] _ _ _
  refine St.block ?_
  refine St.loopw (Y := Nat × Int) (fun y => [(15, .int .i64 (y.1 : Nat))]) [14, 13, 0, 1] (fun y τ => Stars (pt tb (.cells (monC sb eb mb sp ss.length sc lb nb y.2 len at_ rule) 53 (0, 0)) :: ro ρ1 :: rs) τ ∧ y.1 ≤ ss1.length ∧ y.2 = least (fun q => (f q || (q == 6 && (ss1.take y.1).any (clo6 b1))) || (q == 5 && (ss1.take y.1).any (clo5 b1)))) (fun y => ss1.length - y.1) ((0, br)) rfl (⟨hS, Nat.zero_le _, hbr.trans (least_congr fun q => by simp)⟩) ?_
  intro ⟨i, br⟩ τ ⟨hS, hi, hbr⟩ back
  simp only [] at hS hi hbr
  show St _ _ _ [(15, _), (14, _), (13, _), (0, _), (1, _)] _ _ _
  refine St.seq ?_
  refine St.region rfl ?_
  refine Reg.q rfl rfl rfl (q_lt rfl rfl) ?_
  refine Reg.done ?_
  refine St.keep [15, 14, 13, 0, 1, 16] ?_
  show St _ _ _ [(16, _), (15, _), (14, _), (13, _), (0, _), (1, _)] _ _ _
  refine St.seq ?_
  refine St.cond rfl (fun hc0 => ?_) (fun hc0 => ?_)
  · simp at hc0
    obtain ⟨o, ho⟩ : ∃ o, ss1[i]? = some o := ⟨_, List.getElem?_eq_getElem (by omega)⟩
    obtain ⟨bo, hbo⟩ : ∃ bo, bs[i]? = some bo := ⟨_, List.getElem?_eq_getElem (by omega)⟩
    have hwo := hwf1 o (List.mem_of_getElem? ho)
    have hat6 := any_take ho (clo6 b1)
    have hat5 := any_take ho (clo5 b1)
    obtain ⟨b9, o9, cs9, T9, f9, hsp, hb9, hl9, hr9⟩ := Rd.row ptrC_len (by decide) hrd hbo
    obtain ⟨ao0, co0, ao1, co1, cbo, clo, hsto, hro0, hro1, _, _⟩ := msts_at hρ (k := 1) rfl hbo ho
    have hwbf := hwb.few
    have hwof := hwo.few
    have hpe : decide ((⟨bo, 0, none⟩ : Addr) = ⟨bk, 0, none⟩) = true → (o.proc == b1.proc) = true := fun h => by
      have h1 := of_decide_eq_true h
      have h2 : bo = bk := congrArg Addr.block h1
      rw [h2, hstb] at hsto
      have h3 := congrArg (fun x : Option Obj => match x with | some (.cells cs _ _) => cs[0]? | _ => none) hsto
      simp [mstC] at h3
      simp [h3]
    refine St.skip ?_
    refine St.seq ?_
    refine St.block ?_
    refine St.seq ?_
    refine St.region rfl ?_
    refine Reg.q rfl rfl rfl (q_indexAt se_47 rfl hsp rfl (by omega) rfl) ?_
    refine Reg.q rfl rfl rfl (q_load1 ac_56 rfl (hS.ro 1 rfl _ _ hb9) (row_cell hr9 0 rfl)) ?_
    refine Reg.q rfl rfl rfl (q_assign rfl) ?_
    refine Reg.done ?_
    refine St.keep [16, 15, 14, 13, 0, 1, 5] ?_
    show St _ _ _ [(5, _), (16, _), (15, _), (14, _), (13, _), (0, _), (1, _)] _ _ _
    refine St.seq ?_
    refine St.seq ?_
    refine St.draw0 [] [(0, .w), (1, .w), (2, .w), (3, .r), (4, .w), (5, .w), (6, .w), (7, .r), (8, .w)] mixed (by kernel_rfl) rfl ?_
    refine Dr.w rfl rfl rfl rfl (q_move rfl) ?_
    refine Dr.w rfl rfl rfl rfl (q_nil rfl) ?_
    refine Dr.w rfl rfl rfl rfl (q_fieldAddr fo_65_1 rfl rfl) ?_
    refine Dr.r rfl rfl rfl rfl (Sub.rfl' _) (q_loadA ac_30 rfl (hS.ro 1 rfl _ _ hsto) (rowN_row rfl)) ?_
    refine Dr.w rfl rfl rfl rfl (q_move rfl) ?_
    refine Dr.w rfl rfl rfl rfl (q_nil rfl) ?_
    refine Dr.w rfl rfl rfl rfl (q_fieldAddr fo_65_1 rfl rfl) ?_
    refine Dr.r rfl rfl rfl rfl (Sub.rfl' _) (q_loadA ac_30 rfl (hS.ro 1 rfl _ _ hstb) (rowN_row rfl)) ?_
    refine Dr.w rfl rfl rfl rfl (q_ane rfl rfl eg_30 (eq_30 o.conf b1.conf)) ?_
    refine Dr.done ?_
    refine St.keep [5, 16, 15, 14, 13, 0, 1, 27] ?_
    show St _ _ _ [(27, _), (5, _), (16, _), (15, _), (14, _), (13, _), (0, _), (1, _)] _ _ _
    refine St.cond rfl (fun hc1 => ?_) (fun hc1 => ?_)
    · skip
      refine St.exit rfl ?_
      refine St.region rfl ?_
      refine Reg.q rfl rfl rfl (q_add rfl rfl (inc64 (by omega))) ?_
      refine Reg.q rfl rfl rfl (q_move rfl) ?_
      refine Reg.done ?_
      refine St.keep [27, 5, 16, 15, 14, 13, 0, 1] ?_
      show St _ _ _ [(15, _), (27, _), (5, _), (16, _), (15, _), (14, _), (13, _), (0, _), (1, _)] _ _ _
      have hcf : (o.conf == b1.conf) = false := by simpa using hc1
      refine St.conv (SubL.list (by rfl)) (Sub.rfl' _) (back ((i + 1, br)) _ ?_ ?_)
      · exact ⟨hS, by simp only []; omega, hbr.trans (least_congr fun q => by simp only []; rw [hat6, hat5, clo6, clo5, hcf]; simp)⟩
      · simp only []; omega
    · have hcf : (o.conf == b1.conf) = true := by simpa using hc1
      refine St.skip ?_
      refine St.seq ?_
      refine St.draw0 [12] [(0, .w), (1, .w), (2, .w), (3, .w), (4, .w), (5, .w), (6, .w), (7, .r), (8, .w), (9, .w), (10, .w), (11, .r), (12, .x)] mixed (by kernel_rfl) rfl ?_
      refine Dr.w rfl rfl rfl rfl (q_move rfl) ?_
      refine Dr.w rfl rfl rfl rfl (q_move rfl) ?_
      refine Dr.w rfl rfl rfl rfl (q_move rfl) ?_
      refine Dr.w rfl rfl rfl rfl (q_move rfl) ?_
      refine Dr.w rfl rfl rfl rfl (q_nil rfl) ?_
      refine Dr.w rfl rfl rfl rfl (q_fieldAddr fo_65_3 rfl rfl) ?_
      refine Dr.w rfl rfl rfl rfl (q_indexAddrA ae_61 rfl rfl (by decide) rfl) ?_
      refine Dr.r rfl rfl rfl rfl (Sub.rfl' _) (q_load1 ac_60 rfl (hS.ro 1 rfl _ _ hsto) rfl) ?_
      refine Dr.w rfl rfl rfl rfl (q_move rfl) ?_
      refine Dr.w rfl rfl rfl rfl (q_nil rfl) ?_
      refine Dr.w rfl rfl rfl rfl (q_fieldAddr fo_65_2 rfl rfl) ?_
      refine Dr.r rfl rfl rfl rfl (Sub.rfl' _) (q_load1 ac_59 rfl (hS.ro 1 rfl _ _ hsto) rfl) ?_
      refine Dr.x rfl rfl rfl rfl (e_callF rfl rfl rfl ca_30 ((mowes_spec _ ρ1 _ _ _ _ _ _ _ _ _ _ _ _ _ _ _ hbr hS bk b1 _ _ _ _ _ hstb hrb0 hrb1 hwb.few (fun m hm => (hwb.ok0 m hm).up hsr) (fun m hm => (hwb.ok1 m hm).up hsr) _ o.p0 _ _ hro0 (fun m hm => (hwo.ok0 m hm).up hsr) (by have := hwo.few; omega) _).mono fun v40 τ40 h40 => ?_))
      obtain ⟨br1, hS, hbr1⟩ := h40
      refine ⟨.inl rfl, ?_⟩
      refine Dr.done ?_
      refine St.keep [27, 5, 16, 15, 14, 13, 0, 1] ?_
      show St _ _ _ [(27, _), (5, _), (16, _), (15, _), (14, _), (13, _), (0, _), (1, _)] _ _ _
      refine St.seq ?_
      refine St.seq ?_
      refine St.region rfl ?_
      refine Reg.q rfl rfl rfl (q_move rfl) ?_
      refine Reg.q rfl rfl rfl (q_nil rfl) ?_
      refine Reg.q rfl rfl rfl (q_fieldAddr fo_65_5 rfl rfl) ?_
      refine Reg.q rfl rfl rfl (q_load1 ac_63 rfl (hS.ro 1 rfl _ _ hsto) rfl) ?_
      refine Reg.q rfl rfl rfl (QOp.eq (v' := .bool o.trans.isSome) (q_pnen Try.underlying63 rfl rfl) (by show _ = Value.bool _; cases o.trans <;> rfl)) ?_
      refine Reg.done ?_
      refine St.keep [27, 5, 16, 15, 14, 13, 0, 1, 45] ?_
      show St _ _ _ [(45, _), (27, _), (5, _), (16, _), (15, _), (14, _), (13, _), (0, _), (1, _)] _ _ _
      refine St.cond rfl (fun hc2 => ?_) (fun hc2 => ?_)
      · obtain ⟨⟨nO, xO⟩, hxO⟩ : ∃ r, o.trans = some r := Option.isSome_iff_exists.1 hc2
        have hevO := hsr _ _ (hwo.trans _ _ hxO)
        refine St.draw0 [15] [(0, .w), (1, .w), (2, .w), (3, .w), (4, .w), (5, .w), (6, .w), (7, .r), (8, .w), (9, .w), (10, .w), (11, .r), (12, .w), (13, .w), (14, .r), (15, .x)] mixed (by kernel_rfl) rfl ?_
        refine Dr.w rfl rfl rfl rfl (q_move rfl) ?_
        refine Dr.w rfl rfl rfl rfl (q_move rfl) ?_
        refine Dr.w rfl rfl rfl rfl (q_move rfl) ?_
        refine Dr.w rfl rfl rfl rfl (q_move rfl) ?_
        refine Dr.w rfl rfl rfl rfl (q_nil rfl) ?_
        refine Dr.w rfl rfl rfl rfl (q_fieldAddr fo_65_3 rfl rfl) ?_
        refine Dr.w rfl rfl rfl rfl (q_indexAddrA ae_61 rfl rfl (by decide) rfl) ?_
        refine Dr.r rfl rfl rfl rfl (Sub.rfl' _) (q_load1 ac_60 rfl (hS.ro 1 rfl _ _ hsto) rfl) ?_
        refine Dr.w rfl rfl rfl rfl (q_move rfl) ?_
        refine Dr.w rfl rfl rfl rfl (q_nil rfl) ?_
        refine Dr.w rfl rfl rfl rfl (q_fieldAddr fo_65_5 rfl rfl) ?_
        refine Dr.r rfl rfl rfl rfl (Sub.rfl' _) (QOp.eq (v' := .pointer (some ⟨nO, 0, none⟩)) (q_load1 ac_63 rfl (hS.ro 1 rfl _ _ hsto) rfl) (by show trp o.trans = _; rw [hxO]; rfl)) ?_
        refine Dr.w rfl rfl rfl rfl (q_nil rfl) ?_
        refine Dr.w rfl rfl rfl rfl (q_fieldAddr fo_39_4 rfl rfl) ?_
        refine Dr.r rfl rfl rfl rfl (Sub.rfl' _) (q_load1 ac_28 rfl (hS.ro 1 rfl _ _ hevO) rfl) ?_
        refine Dr.x rfl rfl rfl rfl (e_callF rfl rfl rfl ca_30 ((mowes_spec _ ρ1 _ _ _ _ _ _ _ _ _ _ _ _ _ _ _ hbr1 hS bk b1 _ _ _ _ _ hstb hrb0 hrb1 hwb.few (fun m hm => (hwb.ok0 m hm).up hsr) (fun m hm => (hwb.ok1 m hm).up hsr) _ o.p1 _ _ hro1 (fun m hm => (hwo.ok1 m hm).up hsr) (by have := hwo.few; omega) _).mono fun v61 τ61 h61 => ?_))
        obtain ⟨br2, hS, hbr2⟩ := h61
        refine ⟨.inl rfl, ?_⟩
        refine Dr.done ?_
        refine St.keep [45, 27, 5, 16, 15, 14, 13, 0, 1] ?_
        show St _ _ _ [(45, _), (27, _), (5, _), (16, _), (15, _), (14, _), (13, _), (0, _), (1, _)] _ _ _
        refine St.seq ?_
        refine St.seq ?_
        refine St.draw0 [] [(0, .w), (1, .w), (2, .r), (3, .w), (4, .w), (5, .w), (6, .w), (7, .r), (8, .w), (9, .w), (10, .w), (11, .w), (12, .w), (13, .w), (14, .r), (15, .w), (16, .w), (17, .w), (18, .r), (19, .w), (20, .w), (21, .w), (22, .w), (23, .w), (24, .w), (25, .r), (26, .w), (27, .w), (28, .w), (29, .w), (30, .w), (31, .w), (32, .r), (33, .w), (34, .w), (35, .w), (36, .w), (37, .w), (38, .w), (39, .r), (40, .w), (41, .w), (42, .w), (43, .r), (44, .w), (45, .w), (46, .r), (47, .w), (48, .w), (49, .w), (50, .w), (51, .r), (52, .w), (53, .w), (54, .w), (55, .r), (56, .w), (57, .w), (58, .r), (59, .w), (60, .w), (61, .w)] mixed (by kernel_rfl) rfl ?_
        refine Dr.w rfl rfl rfl rfl (q_move rfl) ?_
        refine Dr.w rfl rfl rfl rfl (q_move rfl) ?_
        refine Dr.r rfl rfl rfl rfl (Sub.rfl' _) (q_peq Try.underlying56 sz_65 rfl rfl rfl (hS.ro 1 rfl _ _ hsto) (hS.ro 1 rfl _ _ hstb)) ?_
        refine Dr.w rfl rfl rfl rfl (q_move rfl) ?_
        refine Dr.joinv 71 (.bool (decide ((⟨bo, 0, none⟩ : Addr) = ⟨bk, 0, none⟩) || !o.went)) 6 [45, 27, 5, 16, 15, 14, 13, 0, 1, 62, 63, 64] (fun hk8_9 => ?_) ?_
        · skip
          refine Dr.split (d := 65) rfl (fun hg65 => ?_) (fun hg65 => ?_)
          · skip
            refine Dr.skip rfl rfl rfl rfl ?_
            refine Dr.skip rfl rfl rfl rfl ?_
            refine Dr.skip rfl rfl rfl rfl ?_
            refine Dr.skip rfl rfl rfl rfl ?_
            refine Dr.skip rfl rfl rfl rfl ?_
            refine Dr.w rfl rfl rfl rfl (q_pickT rfl rfl) ?_
            exact Dr.meet 7 [45, 27, 5, 16, 15, 14, 13, 0, 1, 62, 63, 64] hk8_9 rfl (by simp only [hg65, Bool.true_or, Bool.false_or, Bool.true_and, Bool.false_and, Bool.not_true, Bool.not_false]) rfl rfl
          · skip
            refine Dr.w rfl rfl rfl rfl (q_move rfl) ?_
            refine Dr.w rfl rfl rfl rfl (q_nil rfl) ?_
            refine Dr.w rfl rfl rfl rfl (q_fieldAddr fo_65_6 rfl rfl) ?_
            refine Dr.r rfl rfl rfl rfl (Sub.rfl' _) (q_load1 ac_4 rfl (hS.ro 1 rfl _ _ hsto) rfl) ?_
            refine Dr.w rfl rfl rfl rfl (q_not rfl) ?_
            refine Dr.w rfl rfl rfl rfl (q_pickF rfl rfl) ?_
            exact Dr.meet 7 [45, 27, 5, 16, 15, 14, 13, 0, 1, 62, 63, 64] hk8_9 rfl (by simp only [hg65, Bool.true_or, Bool.false_or, Bool.true_and, Bool.false_and, Bool.not_true, Bool.not_false]) rfl rfl
        · skip
          refine Dr.w rfl rfl rfl rfl (q_move rfl) ?_
          refine Dr.joinv 82 (.bool (!o.went || o.proc == b1.proc)) 10 [45, 27, 5, 16, 15, 14, 13, 0, 1, 62, 63, 64, 71] (fun hk8_20 => ?_) ?_
          · skip
            refine Dr.split (d := 72) rfl (fun hg72 => ?_) (fun hg72 => ?_)
            · skip
              refine Dr.skip rfl rfl rfl rfl ?_
              refine Dr.skip rfl rfl rfl rfl ?_
              refine Dr.skip rfl rfl rfl rfl ?_
              refine Dr.skip rfl rfl rfl rfl ?_
              refine Dr.skip rfl rfl rfl rfl ?_
              refine Dr.skip rfl rfl rfl rfl ?_
              refine Dr.skip rfl rfl rfl rfl ?_
              refine Dr.skip rfl rfl rfl rfl ?_
              refine Dr.skip rfl rfl rfl rfl ?_
              refine Dr.w rfl rfl rfl rfl (q_pickT rfl rfl) ?_
              exact Dr.meet 11 [45, 27, 5, 16, 15, 14, 13, 0, 1, 62, 63, 64, 71] hk8_20 rfl (by first | (have h0 := hg72; simp only [Bool.or_eq_true] at h0; rcases h0 with h0 | h0; (rw [hpe h0, Bool.or_true]); (rw [h0, Bool.true_or])) | (have h0 := hg72; simp only [Bool.or_eq_false_iff] at h0; rw [h0.2, Bool.false_or])) rfl rfl
            · skip
              refine Dr.w rfl rfl rfl rfl (q_move rfl) ?_
              refine Dr.w rfl rfl rfl rfl (q_nil rfl) ?_
              refine Dr.w rfl rfl rfl rfl (q_fieldAddr fo_65_0 rfl rfl) ?_
              refine Dr.r rfl rfl rfl rfl (Sub.rfl' _) (q_load1 ac_3 rfl (hS.ro 1 rfl _ _ hsto) rfl) ?_
              refine Dr.w rfl rfl rfl rfl (q_move rfl) ?_
              refine Dr.w rfl rfl rfl rfl (q_nil rfl) ?_
              refine Dr.w rfl rfl rfl rfl (q_fieldAddr fo_65_0 rfl rfl) ?_
              refine Dr.r rfl rfl rfl rfl (Sub.rfl' _) (q_load1 ac_3 rfl (hS.ro 1 rfl _ _ hstb) rfl) ?_
              refine Dr.w rfl rfl rfl rfl (q_ieq rfl rfl) ?_
              refine Dr.w rfl rfl rfl rfl (q_pickF rfl rfl) ?_
              exact Dr.meet 11 [45, 27, 5, 16, 15, 14, 13, 0, 1, 62, 63, 64, 71] hk8_20 rfl (by first | (have h0 := hg72; simp only [Bool.or_eq_true] at h0; rcases h0 with h0 | h0; (rw [hpe h0, Bool.or_true]); (rw [h0, Bool.true_or])) | (have h0 := hg72; simp only [Bool.or_eq_false_iff] at h0; rw [h0.2, Bool.false_or])) rfl rfl
          · skip
            refine Dr.w rfl rfl rfl rfl (q_move rfl) ?_
            refine Dr.joinv 89 (.bool (!o.went || o.proc == b1.proc || o.trans.isNone)) 6 [45, 27, 5, 16, 15, 14, 13, 0, 1, 62, 63, 64, 71, 82] (fun hk8_27 => ?_) ?_
            · skip
              refine Dr.split (d := 83) rfl (fun hg83 => ?_) (fun hg83 => ?_)
              · skip
                refine Dr.skip rfl rfl rfl rfl ?_
                refine Dr.skip rfl rfl rfl rfl ?_
                refine Dr.skip rfl rfl rfl rfl ?_
                refine Dr.skip rfl rfl rfl rfl ?_
                refine Dr.skip rfl rfl rfl rfl ?_
                refine Dr.w rfl rfl rfl rfl (q_pickT rfl rfl) ?_
                exact Dr.meet 7 [45, 27, 5, 16, 15, 14, 13, 0, 1, 62, 63, 64, 71, 82] hk8_27 rfl (by simp only [hg83, Bool.true_or, Bool.false_or, Bool.true_and, Bool.false_and, Bool.not_true, Bool.not_false]) rfl rfl
              · skip
                refine Dr.w rfl rfl rfl rfl (q_move rfl) ?_
                refine Dr.w rfl rfl rfl rfl (q_nil rfl) ?_
                refine Dr.w rfl rfl rfl rfl (q_fieldAddr fo_65_5 rfl rfl) ?_
                refine Dr.r rfl rfl rfl rfl (Sub.rfl' _) (q_load1 ac_63 rfl (hS.ro 1 rfl _ _ hsto) rfl) ?_
                refine Dr.w rfl rfl rfl rfl (QOp.eq (v' := .bool o.trans.isNone) (q_peqn Try.underlying63 rfl rfl) (by show _ = Value.bool _; cases o.trans <;> rfl)) ?_
                refine Dr.w rfl rfl rfl rfl (q_pickF rfl rfl) ?_
                exact Dr.meet 7 [45, 27, 5, 16, 15, 14, 13, 0, 1, 62, 63, 64, 71, 82] hk8_27 rfl (by simp only [hg83, Bool.true_or, Bool.false_or, Bool.true_and, Bool.false_and, Bool.not_true, Bool.not_false]) rfl rfl
            · skip
              refine Dr.w rfl rfl rfl rfl (q_move rfl) ?_
              refine Dr.joinv 96 (.bool (!o.went || o.proc == b1.proc || o.trans.isNone || b1.trans.isNone)) 6 [45, 27, 5, 16, 15, 14, 13, 0, 1, 62, 63, 64, 71, 82, 89] (fun hk8_34 => ?_) ?_
              · skip
                refine Dr.split (d := 90) rfl (fun hg90 => ?_) (fun hg90 => ?_)
                · skip
                  refine Dr.skip rfl rfl rfl rfl ?_
                  refine Dr.skip rfl rfl rfl rfl ?_
                  refine Dr.skip rfl rfl rfl rfl ?_
                  refine Dr.skip rfl rfl rfl rfl ?_
                  refine Dr.skip rfl rfl rfl rfl ?_
                  refine Dr.w rfl rfl rfl rfl (q_pickT rfl rfl) ?_
                  exact Dr.meet 7 [45, 27, 5, 16, 15, 14, 13, 0, 1, 62, 63, 64, 71, 82, 89] hk8_34 rfl (by simp only [hg90, Bool.true_or, Bool.false_or, Bool.true_and, Bool.false_and, Bool.not_true, Bool.not_false]) rfl rfl
                · skip
                  refine Dr.w rfl rfl rfl rfl (q_move rfl) ?_
                  refine Dr.w rfl rfl rfl rfl (q_nil rfl) ?_
                  refine Dr.w rfl rfl rfl rfl (q_fieldAddr fo_65_5 rfl rfl) ?_
                  refine Dr.r rfl rfl rfl rfl (Sub.rfl' _) (q_load1 ac_63 rfl (hS.ro 1 rfl _ _ hstb) rfl) ?_
                  refine Dr.w rfl rfl rfl rfl (QOp.eq (v' := .bool b1.trans.isNone) (q_peqn Try.underlying63 rfl rfl) (by show _ = Value.bool _; cases b1.trans <;> rfl)) ?_
                  refine Dr.w rfl rfl rfl rfl (q_pickF rfl rfl) ?_
                  exact Dr.meet 7 [45, 27, 5, 16, 15, 14, 13, 0, 1, 62, 63, 64, 71, 82, 89] hk8_34 rfl (by simp only [hg90, Bool.true_or, Bool.false_or, Bool.true_and, Bool.false_and, Bool.not_true, Bool.not_false]) rfl rfl
              · skip
                refine Dr.w rfl rfl rfl rfl (q_move rfl) ?_
                refine Dr.joinv 123 (.bool (!o.went || o.proc == b1.proc || o.trans.isNone || b1.trans.isNone || (o.conf, transNew o.trans) != (b1.conf, transNew b1.trans))) 26 [45, 27, 5, 16, 15, 14, 13, 0, 1, 62, 63, 64, 71, 82, 89, 96] (fun hk8_61 => ?_) ?_
                · skip
                  refine Dr.split (d := 97) rfl (fun hg97 => ?_) (fun hg97 => ?_)
                  · skip
                    refine Dr.skip rfl rfl rfl rfl ?_
                    refine Dr.skip rfl rfl rfl rfl ?_
                    refine Dr.skip rfl rfl rfl rfl ?_
                    refine Dr.skip rfl rfl rfl rfl ?_
                    refine Dr.skip rfl rfl rfl rfl ?_
                    refine Dr.skip rfl rfl rfl rfl ?_
                    refine Dr.skip rfl rfl rfl rfl ?_
                    refine Dr.skip rfl rfl rfl rfl ?_
                    refine Dr.skip rfl rfl rfl rfl ?_
                    refine Dr.skip rfl rfl rfl rfl ?_
                    refine Dr.skip rfl rfl rfl rfl ?_
                    refine Dr.skip rfl rfl rfl rfl ?_
                    refine Dr.skip rfl rfl rfl rfl ?_
                    refine Dr.skip rfl rfl rfl rfl ?_
                    refine Dr.skip rfl rfl rfl rfl ?_
                    refine Dr.skip rfl rfl rfl rfl ?_
                    refine Dr.skip rfl rfl rfl rfl ?_
                    refine Dr.skip rfl rfl rfl rfl ?_
                    refine Dr.skip rfl rfl rfl rfl ?_
                    refine Dr.skip rfl rfl rfl rfl ?_
                    refine Dr.skip rfl rfl rfl rfl ?_
                    refine Dr.skip rfl rfl rfl rfl ?_
                    refine Dr.skip rfl rfl rfl rfl ?_
                    refine Dr.skip rfl rfl rfl rfl ?_
                    refine Dr.skip rfl rfl rfl rfl ?_
                    refine Dr.w rfl rfl rfl rfl (q_pickT rfl rfl) ?_
                    exact Dr.meet 27 [45, 27, 5, 16, 15, 14, 13, 0, 1, 62, 63, 64, 71, 82, 89, 96] hk8_61 rfl (by first | (simp only [hg97, Bool.true_or]; done) | (rw [hg97, Bool.false_or, hxO, hxB]; rfl)) rfl rfl
                  · obtain ⟨⟨nO, xO⟩, hxO⟩ : ∃ r, o.trans = some r := Option.isSome_iff_exists.1 (by revert hg97; cases o.trans <;> simp)
                    have hevO := hsr _ _ (hwo.trans _ _ hxO)
                    obtain ⟨⟨nB, xB⟩, hxB⟩ : ∃ r, b1.trans = some r := Option.isSome_iff_exists.1 (by revert hg97; cases b1.trans <;> simp)
                    have hevB := hsr _ _ (hwb.trans _ _ hxB)
                    refine Dr.w rfl rfl rfl rfl (q_move rfl) ?_
                    refine Dr.w rfl rfl rfl rfl (q_nil rfl) ?_
                    refine Dr.w rfl rfl rfl rfl (q_fieldAddr fo_65_1 rfl rfl) ?_
                    refine Dr.r rfl rfl rfl rfl (Sub.rfl' _) (q_loadA ac_30 rfl (hS.ro 1 rfl _ _ hsto) (rowN_row rfl)) ?_
                    refine Dr.w rfl rfl rfl rfl (q_move rfl) ?_
                    refine Dr.w rfl rfl rfl rfl (q_nil rfl) ?_
                    refine Dr.w rfl rfl rfl rfl (q_fieldAddr fo_65_5 rfl rfl) ?_
                    refine Dr.r rfl rfl rfl rfl (Sub.rfl' _) (QOp.eq (v' := .pointer (some ⟨nO, 0, none⟩)) (q_load1 ac_63 rfl (hS.ro 1 rfl _ _ hsto) rfl) (by show trp o.trans = _; rw [hxO]; rfl)) ?_
                    refine Dr.w rfl rfl rfl rfl (q_nil rfl) ?_
                    refine Dr.w rfl rfl rfl rfl (q_fieldAddr fo_39_3 rfl rfl) ?_
                    refine Dr.r rfl rfl rfl rfl (Sub.rfl' _) (q_loadA ac_30 rfl (hS.ro 1 rfl _ _ hevO) (rowN_row rfl)) ?_
                    refine Dr.w rfl rfl rfl rfl (q_build rfl zo_113 pl_113 (fillN_fill rfl)) ?_
                    refine Dr.w rfl rfl rfl rfl (q_move rfl) ?_
                    refine Dr.w rfl rfl rfl rfl (q_nil rfl) ?_
                    refine Dr.w rfl rfl rfl rfl (q_fieldAddr fo_65_1 rfl rfl) ?_
                    refine Dr.r rfl rfl rfl rfl (Sub.rfl' _) (q_loadA ac_30 rfl (hS.ro 1 rfl _ _ hstb) (rowN_row rfl)) ?_
                    refine Dr.w rfl rfl rfl rfl (q_move rfl) ?_
                    refine Dr.w rfl rfl rfl rfl (q_nil rfl) ?_
                    refine Dr.w rfl rfl rfl rfl (q_fieldAddr fo_65_5 rfl rfl) ?_
                    refine Dr.r rfl rfl rfl rfl (Sub.rfl' _) (QOp.eq (v' := .pointer (some ⟨nB, 0, none⟩)) (q_load1 ac_63 rfl (hS.ro 1 rfl _ _ hstb) rfl) (by show trp b1.trans = _; rw [hxB]; rfl)) ?_
                    refine Dr.w rfl rfl rfl rfl (q_nil rfl) ?_
                    refine Dr.w rfl rfl rfl rfl (q_fieldAddr fo_39_3 rfl rfl) ?_
                    refine Dr.r rfl rfl rfl rfl (Sub.rfl' _) (q_loadA ac_30 rfl (hS.ro 1 rfl _ _ hevB) (rowN_row rfl)) ?_
                    refine Dr.w rfl rfl rfl rfl (q_build rfl zo_113 pl_113 (fillN_fill rfl)) ?_
                    refine Dr.w rfl rfl rfl rfl (q_ane rfl rfl eg_113 (eq_113 (o.conf, xO.new) (b1.conf, xB.new))) ?_
                    refine Dr.w rfl rfl rfl rfl (q_pickF rfl rfl) ?_
                    exact Dr.meet 27 [45, 27, 5, 16, 15, 14, 13, 0, 1, 62, 63, 64, 71, 82, 89, 96] hk8_61 rfl (by first | (simp only [hg97, Bool.true_or]; done) | (rw [hg97, Bool.false_or, hxO, hxB]; rfl)) rfl rfl
                · skip
                  refine Dr.done ?_
                  refine St.keep [45, 27, 5, 16, 15, 14, 13, 0, 1, 123] ?_
                  show St _ _ _ [(123, _), (45, _), (27, _), (5, _), (16, _), (15, _), (14, _), (13, _), (0, _), (1, _)] _ _ _
                  refine St.cond rfl (fun hc3 => ?_) (fun hc3 => ?_)
                  · skip
                    refine St.exit rfl ?_
                    refine St.region rfl ?_
                    refine Reg.q rfl rfl rfl (q_add rfl rfl (inc64 (by omega))) ?_
                    refine Reg.q rfl rfl rfl (q_move rfl) ?_
                    refine Reg.done ?_
                    refine St.keep [123, 45, 27, 5, 16, 15, 14, 13, 0, 1] ?_
                    show St _ _ _ [(15, _), (123, _), (45, _), (27, _), (5, _), (16, _), (15, _), (14, _), (13, _), (0, _), (1, _)] _ _ _
                    refine St.conv (SubL.list (by rfl)) (Sub.rfl' _) (back ((i + 1, br2)) _ ?_ ?_)
                    · exact ⟨hS, by simp only []; omega, hbr2.trans (least_congr fun q => by simp only []; rw [hat6, hat5, clo6, clo5, hcf, pairsM, hc3, hxO]; simp only [transMem, Option.isSome_some]; cases (q == 6) <;> cases (q == 5) <;> simp [Bool.or_assoc, Bool.or_comm, Bool.or_left_comm])⟩
                    · simp only []; omega
                  · obtain ⟨⟨nB, xB⟩, hxB⟩ : ∃ r, b1.trans = some r := Option.isSome_iff_exists.1 (by revert hc3; cases b1.trans <;> simp)
                    have hevB := hsr _ _ (hwb.trans _ _ hxB)
                    refine St.skip ?_
                    refine St.draw0 [41, 44] [(0, .w), (1, .w), (2, .w), (3, .w), (4, .r), (5, .w), (6, .w), (7, .r), (8, .w), (9, .w), (10, .w), (11, .r), (12, .w), (13, .w), (14, .r), (15, .w), (16, .w), (17, .w), (18, .w), (19, .w), (20, .w), (21, .r), (22, .w), (23, .w), (24, .w), (25, .w), (26, .r), (27, .x), (28, .w), (29, .w), (30, .w), (31, .w), (32, .w), (33, .w), (34, .w), (35, .r), (36, .w), (37, .w), (38, .w), (39, .w), (40, .r), (41, .x), (42, .w), (43, .w), (44, .x)] mixed (by kernel_rfl) rfl ?_
                    refine Dr.w rfl rfl rfl rfl (q_move rfl) ?_
                    refine Dr.w rfl rfl rfl rfl (q_move rfl) ?_
                    refine Dr.w rfl rfl rfl rfl (q_nil rfl) ?_
                    refine Dr.w rfl rfl rfl rfl (q_fieldAddr fo_65_5 rfl rfl) ?_
                    refine Dr.r rfl rfl rfl rfl (Sub.rfl' _) (QOp.eq (v' := .pointer (some ⟨nO, 0, none⟩)) (q_load1 ac_63 rfl (hS.ro 1 rfl _ _ hsto) rfl) (by show trp o.trans = _; rw [hxO]; rfl)) ?_
                    refine Dr.w rfl rfl rfl rfl (q_nil rfl) ?_
                    refine Dr.w rfl rfl rfl rfl (q_fieldAddr fo_39_4 rfl rfl) ?_
                    refine Dr.r rfl rfl rfl rfl (Sub.rfl' _) (q_load1 ac_28 rfl (hS.ro 1 rfl _ _ hevO) rfl) ?_
                    refine Dr.w rfl rfl rfl rfl (q_move rfl) ?_
                    refine Dr.w rfl rfl rfl rfl (q_nil rfl) ?_
                    refine Dr.w rfl rfl rfl rfl (q_fieldAddr fo_65_5 rfl rfl) ?_
                    refine Dr.r rfl rfl rfl rfl (Sub.rfl' _) (QOp.eq (v' := .pointer (some ⟨nB, 0, none⟩)) (q_load1 ac_63 rfl (hS.ro 1 rfl _ _ hstb) rfl) (by show trp b1.trans = _; rw [hxB]; rfl)) ?_
                    refine Dr.w rfl rfl rfl rfl (q_nil rfl) ?_
                    refine Dr.w rfl rfl rfl rfl (q_fieldAddr fo_39_4 rfl rfl) ?_
                    refine Dr.r rfl rfl rfl rfl (Sub.rfl' _) (q_load1 ac_28 rfl (hS.ro 1 rfl _ _ hevB) rfl) ?_
                    refine Dr.w rfl rfl rfl rfl (q_ine rfl rfl) ?_
                    refine Dr.w rfl rfl rfl rfl (q_move rfl) ?_
                    refine Dr.joinv 153 (.bool (transMem o.trans != transMem b1.trans || !sames o.p0 b1.p0)) 13 [123, 45, 27, 5, 16, 15, 14, 13, 0, 1, 124, 125, 126, 127, 128, 129, 130, 131, 132, 133, 134, 135, 136, 137, 138, 139] (fun hk9_29 => ?_) ?_
                    · skip
                      refine Dr.split (d := 140) rfl (fun hg140 => ?_) (fun hg140 => ?_)
                      · skip
                        refine Dr.skip rfl rfl rfl rfl ?_
                        refine Dr.skip rfl rfl rfl rfl ?_
                        refine Dr.skip rfl rfl rfl rfl ?_
                        refine Dr.skip rfl rfl rfl rfl ?_
                        refine Dr.skip rfl rfl rfl rfl ?_
                        refine Dr.skip rfl rfl rfl rfl ?_
                        refine Dr.skip rfl rfl rfl rfl ?_
                        refine Dr.skip rfl rfl rfl rfl ?_
                        refine Dr.skip rfl rfl rfl rfl ?_
                        refine Dr.skip rfl rfl rfl rfl ?_
                        refine Dr.skip rfl rfl rfl rfl ?_
                        refine Dr.skip rfl rfl rfl rfl ?_
                        refine Dr.w rfl rfl rfl rfl (q_pickT rfl rfl) ?_
                        exact Dr.meet 14 [123, 45, 27, 5, 16, 15, 14, 13, 0, 1, 124, 125, 126, 127, 128, 129, 130, 131, 132, 133, 134, 135, 136, 137, 138, 139] hk9_29 rfl (by rw [hxO, hxB]; simp only [transMem, hg140, Bool.true_or, Bool.false_or]) rfl rfl
                      · skip
                        refine Dr.w rfl rfl rfl rfl (q_move rfl) ?_
                        refine Dr.w rfl rfl rfl rfl (q_nil rfl) ?_
                        refine Dr.w rfl rfl rfl rfl (q_fieldAddr fo_65_3 rfl rfl) ?_
                        refine Dr.w rfl rfl rfl rfl (q_indexAddrA ae_61 rfl rfl (by decide) rfl) ?_
                        refine Dr.r rfl rfl rfl rfl (Sub.rfl' _) (q_load1 ac_60 rfl (hS.ro 1 rfl _ _ hsto) rfl) ?_
                        refine Dr.w rfl rfl rfl rfl (q_move rfl) ?_
                        refine Dr.w rfl rfl rfl rfl (q_nil rfl) ?_
                        refine Dr.w rfl rfl rfl rfl (q_fieldAddr fo_65_3 rfl rfl) ?_
                        refine Dr.w rfl rfl rfl rfl (q_indexAddrA ae_61 rfl rfl (by decide) rfl) ?_
                        refine Dr.r rfl rfl rfl rfl (Sub.rfl' _) (q_load1 ac_60 rfl (hS.ro 1 rfl _ _ hstb) rfl) ?_
                        refine Dr.x rfl rfl rfl rfl (e_callF rfl rfl rfl ca_36 ((eqf_spec _ _ _ _ _ _ _ o.p0 b1.p0 (Rd.up hro0 (hS.ro 1 rfl)) (Rd.up hrb0 (hS.ro 1 rfl)) (fun m hm => (hwo.ok0 m hm).up (hsr.trans (hS.ro 1 rfl))) (fun m hm => (hwb.ok0 m hm).up (hsr.trans (hS.ro 1 rfl))) (by omega) _ ca_26 (fun τ x y hx hy => msame_spec τ x y hx hy)).mono fun v151 τ151 h151 => ?_))
                        obtain ⟨rfl, rfl⟩ := h151
                        refine ⟨.inr (Sub.rfl' _), ?_⟩
                        refine Dr.w rfl rfl rfl rfl (q_not rfl) ?_
                        refine Dr.w rfl rfl rfl rfl (q_pickF rfl rfl) ?_
                        exact Dr.meet 14 [123, 45, 27, 5, 16, 15, 14, 13, 0, 1, 124, 125, 126, 127, 128, 129, 130, 131, 132, 133, 134, 135, 136, 137, 138, 139] hk9_29 rfl (by rw [hxO, hxB]; simp only [transMem, hg140, Bool.true_or, Bool.false_or]) rfl rfl
                    · skip
                      refine Dr.w rfl rfl rfl rfl (q_move rfl) ?_
                      refine Dr.joinv 167 (.bool (transMem o.trans != transMem b1.trans || !sames o.p0 b1.p0 || !sames o.p1 b1.p1)) 13 [123, 45, 27, 5, 16, 15, 14, 13, 0, 1, 124, 125, 126, 127, 128, 129, 130, 131, 132, 133, 134, 135, 136, 137, 138, 139, 153] (fun hk9_43 => ?_) ?_
                      · skip
                        refine Dr.split (d := 154) rfl (fun hg154 => ?_) (fun hg154 => ?_)
                        · skip
                          refine Dr.skip rfl rfl rfl rfl ?_
                          refine Dr.skip rfl rfl rfl rfl ?_
                          refine Dr.skip rfl rfl rfl rfl ?_
                          refine Dr.skip rfl rfl rfl rfl ?_
                          refine Dr.skip rfl rfl rfl rfl ?_
                          refine Dr.skip rfl rfl rfl rfl ?_
                          refine Dr.skip rfl rfl rfl rfl ?_
                          refine Dr.skip rfl rfl rfl rfl ?_
                          refine Dr.skip rfl rfl rfl rfl ?_
                          refine Dr.skip rfl rfl rfl rfl ?_
                          refine Dr.skip rfl rfl rfl rfl ?_
                          refine Dr.skip rfl rfl rfl rfl ?_
                          refine Dr.w rfl rfl rfl rfl (q_pickT rfl rfl) ?_
                          exact Dr.meet 14 [123, 45, 27, 5, 16, 15, 14, 13, 0, 1, 124, 125, 126, 127, 128, 129, 130, 131, 132, 133, 134, 135, 136, 137, 138, 139, 153] hk9_43 rfl (by simp only [hg154, Bool.true_or, Bool.false_or, Bool.true_and, Bool.false_and, Bool.not_true, Bool.not_false]) rfl rfl
                        · skip
                          refine Dr.w rfl rfl rfl rfl (q_move rfl) ?_
                          refine Dr.w rfl rfl rfl rfl (q_nil rfl) ?_
                          refine Dr.w rfl rfl rfl rfl (q_fieldAddr fo_65_3 rfl rfl) ?_
                          refine Dr.w rfl rfl rfl rfl (q_indexAddrA ae_61 rfl rfl (by decide) rfl) ?_
                          refine Dr.r rfl rfl rfl rfl (Sub.rfl' _) (q_load1 ac_60 rfl (hS.ro 1 rfl _ _ hsto) rfl) ?_
                          refine Dr.w rfl rfl rfl rfl (q_move rfl) ?_
                          refine Dr.w rfl rfl rfl rfl (q_nil rfl) ?_
                          refine Dr.w rfl rfl rfl rfl (q_fieldAddr fo_65_3 rfl rfl) ?_
                          refine Dr.w rfl rfl rfl rfl (q_indexAddrA ae_61 rfl rfl (by decide) rfl) ?_
                          refine Dr.r rfl rfl rfl rfl (Sub.rfl' _) (q_load1 ac_60 rfl (hS.ro 1 rfl _ _ hstb) rfl) ?_
                          refine Dr.x rfl rfl rfl rfl (e_callF rfl rfl rfl ca_36 ((eqf_spec _ _ _ _ _ _ _ o.p1 b1.p1 (Rd.up hro1 (hS.ro 1 rfl)) (Rd.up hrb1 (hS.ro 1 rfl)) (fun m hm => (hwo.ok1 m hm).up (hsr.trans (hS.ro 1 rfl))) (fun m hm => (hwb.ok1 m hm).up (hsr.trans (hS.ro 1 rfl))) (by omega) _ ca_26 (fun τ x y hx hy => msame_spec τ x y hx hy)).mono fun v165 τ165 h165 => ?_))
                          obtain ⟨rfl, rfl⟩ := h165
                          refine ⟨.inl rfl, ?_⟩
                          refine Dr.w rfl rfl rfl rfl (q_not rfl) ?_
                          refine Dr.w rfl rfl rfl rfl (q_pickF rfl rfl) ?_
                          exact Dr.meet 14 [123, 45, 27, 5, 16, 15, 14, 13, 0, 1, 124, 125, 126, 127, 128, 129, 130, 131, 132, 133, 134, 135, 136, 137, 138, 139, 153] hk9_43 rfl (by simp only [hg154, Bool.true_or, Bool.false_or, Bool.true_and, Bool.false_and, Bool.not_true, Bool.not_false]) rfl rfl
                      · skip
                        refine Dr.x rfl rfl rfl rfl (e_callF rfl rfl rfl ca_17 ((mbreaks_spec _ _ _ _ _ _ _ _ _ _ _ _ _ _ _ hS _ _).mono fun v168 τ168 h168 => ?_))
                        replace hS := h168
                        have hbr3 := least_brk (transMem o.trans != transMem b1.trans || !sames o.p0 b1.p0 || !sames o.p1 b1.p1) hbr2 (show (1 : Int) ≤ 5 by decide) (by decide)
                        refine ⟨.inl rfl, ?_⟩
                        refine Dr.done ?_
                        refine St.keep [123, 45, 27, 5, 16, 15, 14, 13, 0, 1] ?_
                        show St _ _ _ [(123, _), (45, _), (27, _), (5, _), (16, _), (15, _), (14, _), (13, _), (0, _), (1, _)] _ _ _
                        refine St.inBlock ?_
                        refine St.region rfl ?_
                        refine Reg.q rfl rfl rfl (q_add rfl rfl (inc64 (by omega))) ?_
                        refine Reg.q rfl rfl rfl (q_move rfl) ?_
                        refine Reg.done ?_
                        refine St.keep [123, 45, 27, 5, 16, 15, 14, 13, 0, 1] ?_
                        show St _ _ _ [(15, _), (123, _), (45, _), (27, _), (5, _), (16, _), (15, _), (14, _), (13, _), (0, _), (1, _)] _ _ _
                        refine St.conv (SubL.list (by rfl)) (Sub.rfl' _) (back ((i + 1, brkI br2 5 (transMem o.trans != transMem b1.trans || !sames o.p0 b1.p0 || !sames o.p1 b1.p1))) _ ?_ ?_)
                        · exact ⟨hS, by simp only []; omega, hbr3.trans (least_congr fun q => by simp only []; rw [hat6, hat5, clo6, clo5, hcf, pairsM, hc3, hxO]; simp only [transMem, Option.isSome_some]; cases (q == 6) <;> cases (q == 5) <;> simp [Bool.or_assoc, Bool.or_comm, Bool.or_left_comm])⟩
                        · simp only []; omega
      · have hxN : o.trans = none := by cases h : o.trans with | none => rfl | some r => rw [h] at hc2; cases hc2
        refine St.skip ?_
        refine St.seq ?_
        refine St.seq ?_
        refine St.draw0 [] [(0, .w), (1, .w), (2, .r), (3, .w), (4, .w), (5, .w), (6, .w), (7, .r), (8, .w), (9, .w), (10, .w), (11, .w), (12, .w), (13, .w), (14, .r), (15, .w), (16, .w), (17, .w), (18, .r), (19, .w), (20, .w), (21, .w), (22, .w), (23, .w), (24, .w), (25, .r), (26, .w), (27, .w), (28, .w), (29, .w), (30, .w), (31, .w), (32, .r), (33, .w), (34, .w), (35, .w), (36, .w), (37, .w), (38, .w), (39, .r), (40, .w), (41, .w), (42, .w), (43, .r), (44, .w), (45, .w), (46, .r), (47, .w), (48, .w), (49, .w), (50, .w), (51, .r), (52, .w), (53, .w), (54, .w), (55, .r), (56, .w), (57, .w), (58, .r), (59, .w), (60, .w), (61, .w)] mixed (by kernel_rfl) rfl ?_
        refine Dr.w rfl rfl rfl rfl (q_move rfl) ?_
        refine Dr.w rfl rfl rfl rfl (q_move rfl) ?_
        refine Dr.r rfl rfl rfl rfl (Sub.rfl' _) (q_peq Try.underlying56 sz_65 rfl rfl rfl (hS.ro 1 rfl _ _ hsto) (hS.ro 1 rfl _ _ hstb)) ?_
        refine Dr.w rfl rfl rfl rfl (q_move rfl) ?_
        refine Dr.joinv 71 (.bool (decide ((⟨bo, 0, none⟩ : Addr) = ⟨bk, 0, none⟩) || !o.went)) 6 [45, 27, 5, 16, 15, 14, 13, 0, 1, 62, 63, 64] (fun hk8_9 => ?_) ?_
        · skip
          refine Dr.split (d := 65) rfl (fun hg65 => ?_) (fun hg65 => ?_)
          · skip
            refine Dr.skip rfl rfl rfl rfl ?_
            refine Dr.skip rfl rfl rfl rfl ?_
            refine Dr.skip rfl rfl rfl rfl ?_
            refine Dr.skip rfl rfl rfl rfl ?_
            refine Dr.skip rfl rfl rfl rfl ?_
            refine Dr.w rfl rfl rfl rfl (q_pickT rfl rfl) ?_
            exact Dr.meet 7 [45, 27, 5, 16, 15, 14, 13, 0, 1, 62, 63, 64] hk8_9 rfl (by simp only [hg65, Bool.true_or, Bool.false_or, Bool.true_and, Bool.false_and, Bool.not_true, Bool.not_false]) rfl rfl
          · skip
            refine Dr.w rfl rfl rfl rfl (q_move rfl) ?_
            refine Dr.w rfl rfl rfl rfl (q_nil rfl) ?_
            refine Dr.w rfl rfl rfl rfl (q_fieldAddr fo_65_6 rfl rfl) ?_
            refine Dr.r rfl rfl rfl rfl (Sub.rfl' _) (q_load1 ac_4 rfl (hS.ro 1 rfl _ _ hsto) rfl) ?_
            refine Dr.w rfl rfl rfl rfl (q_not rfl) ?_
            refine Dr.w rfl rfl rfl rfl (q_pickF rfl rfl) ?_
            exact Dr.meet 7 [45, 27, 5, 16, 15, 14, 13, 0, 1, 62, 63, 64] hk8_9 rfl (by simp only [hg65, Bool.true_or, Bool.false_or, Bool.true_and, Bool.false_and, Bool.not_true, Bool.not_false]) rfl rfl
        · skip
          refine Dr.w rfl rfl rfl rfl (q_move rfl) ?_
          refine Dr.joinv 82 (.bool (!o.went || o.proc == b1.proc)) 10 [45, 27, 5, 16, 15, 14, 13, 0, 1, 62, 63, 64, 71] (fun hk8_20 => ?_) ?_
          · skip
            refine Dr.split (d := 72) rfl (fun hg72 => ?_) (fun hg72 => ?_)
            · skip
              refine Dr.skip rfl rfl rfl rfl ?_
              refine Dr.skip rfl rfl rfl rfl ?_
              refine Dr.skip rfl rfl rfl rfl ?_
              refine Dr.skip rfl rfl rfl rfl ?_
              refine Dr.skip rfl rfl rfl rfl ?_
              refine Dr.skip rfl rfl rfl rfl ?_
              refine Dr.skip rfl rfl rfl rfl ?_
              refine Dr.skip rfl rfl rfl rfl ?_
              refine Dr.skip rfl rfl rfl rfl ?_
              refine Dr.w rfl rfl rfl rfl (q_pickT rfl rfl) ?_
              exact Dr.meet 11 [45, 27, 5, 16, 15, 14, 13, 0, 1, 62, 63, 64, 71] hk8_20 rfl (by first | (have h0 := hg72; simp only [Bool.or_eq_true] at h0; rcases h0 with h0 | h0; (rw [hpe h0, Bool.or_true]); (rw [h0, Bool.true_or])) | (have h0 := hg72; simp only [Bool.or_eq_false_iff] at h0; rw [h0.2, Bool.false_or])) rfl rfl
            · skip
              refine Dr.w rfl rfl rfl rfl (q_move rfl) ?_
              refine Dr.w rfl rfl rfl rfl (q_nil rfl) ?_
              refine Dr.w rfl rfl rfl rfl (q_fieldAddr fo_65_0 rfl rfl) ?_
              refine Dr.r rfl rfl rfl rfl (Sub.rfl' _) (q_load1 ac_3 rfl (hS.ro 1 rfl _ _ hsto) rfl) ?_
              refine Dr.w rfl rfl rfl rfl (q_move rfl) ?_
              refine Dr.w rfl rfl rfl rfl (q_nil rfl) ?_
              refine Dr.w rfl rfl rfl rfl (q_fieldAddr fo_65_0 rfl rfl) ?_
              refine Dr.r rfl rfl rfl rfl (Sub.rfl' _) (q_load1 ac_3 rfl (hS.ro 1 rfl _ _ hstb) rfl) ?_
              refine Dr.w rfl rfl rfl rfl (q_ieq rfl rfl) ?_
              refine Dr.w rfl rfl rfl rfl (q_pickF rfl rfl) ?_
              exact Dr.meet 11 [45, 27, 5, 16, 15, 14, 13, 0, 1, 62, 63, 64, 71] hk8_20 rfl (by first | (have h0 := hg72; simp only [Bool.or_eq_true] at h0; rcases h0 with h0 | h0; (rw [hpe h0, Bool.or_true]); (rw [h0, Bool.true_or])) | (have h0 := hg72; simp only [Bool.or_eq_false_iff] at h0; rw [h0.2, Bool.false_or])) rfl rfl
          · skip
            refine Dr.w rfl rfl rfl rfl (q_move rfl) ?_
            refine Dr.joinv 89 (.bool (!o.went || o.proc == b1.proc || o.trans.isNone)) 6 [45, 27, 5, 16, 15, 14, 13, 0, 1, 62, 63, 64, 71, 82] (fun hk8_27 => ?_) ?_
            · skip
              refine Dr.split (d := 83) rfl (fun hg83 => ?_) (fun hg83 => ?_)
              · skip
                refine Dr.skip rfl rfl rfl rfl ?_
                refine Dr.skip rfl rfl rfl rfl ?_
                refine Dr.skip rfl rfl rfl rfl ?_
                refine Dr.skip rfl rfl rfl rfl ?_
                refine Dr.skip rfl rfl rfl rfl ?_
                refine Dr.w rfl rfl rfl rfl (q_pickT rfl rfl) ?_
                exact Dr.meet 7 [45, 27, 5, 16, 15, 14, 13, 0, 1, 62, 63, 64, 71, 82] hk8_27 rfl (by simp only [hg83, Bool.true_or, Bool.false_or, Bool.true_and, Bool.false_and, Bool.not_true, Bool.not_false]) rfl rfl
              · skip
                refine Dr.w rfl rfl rfl rfl (q_move rfl) ?_
                refine Dr.w rfl rfl rfl rfl (q_nil rfl) ?_
                refine Dr.w rfl rfl rfl rfl (q_fieldAddr fo_65_5 rfl rfl) ?_
                refine Dr.r rfl rfl rfl rfl (Sub.rfl' _) (q_load1 ac_63 rfl (hS.ro 1 rfl _ _ hsto) rfl) ?_
                refine Dr.w rfl rfl rfl rfl (QOp.eq (v' := .bool o.trans.isNone) (q_peqn Try.underlying63 rfl rfl) (by show _ = Value.bool _; cases o.trans <;> rfl)) ?_
                refine Dr.w rfl rfl rfl rfl (q_pickF rfl rfl) ?_
                exact Dr.meet 7 [45, 27, 5, 16, 15, 14, 13, 0, 1, 62, 63, 64, 71, 82] hk8_27 rfl (by simp only [hg83, Bool.true_or, Bool.false_or, Bool.true_and, Bool.false_and, Bool.not_true, Bool.not_false]) rfl rfl
            · skip
              refine Dr.w rfl rfl rfl rfl (q_move rfl) ?_
              refine Dr.joinv 96 (.bool (!o.went || o.proc == b1.proc || o.trans.isNone || b1.trans.isNone)) 6 [45, 27, 5, 16, 15, 14, 13, 0, 1, 62, 63, 64, 71, 82, 89] (fun hk8_34 => ?_) ?_
              · skip
                refine Dr.split (d := 90) rfl (fun hg90 => ?_) (fun hg90 => ?_)
                · skip
                  refine Dr.skip rfl rfl rfl rfl ?_
                  refine Dr.skip rfl rfl rfl rfl ?_
                  refine Dr.skip rfl rfl rfl rfl ?_
                  refine Dr.skip rfl rfl rfl rfl ?_
                  refine Dr.skip rfl rfl rfl rfl ?_
                  refine Dr.w rfl rfl rfl rfl (q_pickT rfl rfl) ?_
                  exact Dr.meet 7 [45, 27, 5, 16, 15, 14, 13, 0, 1, 62, 63, 64, 71, 82, 89] hk8_34 rfl (by simp only [hg90, Bool.true_or, Bool.false_or, Bool.true_and, Bool.false_and, Bool.not_true, Bool.not_false]) rfl rfl
                · skip
                  refine Dr.w rfl rfl rfl rfl (q_move rfl) ?_
                  refine Dr.w rfl rfl rfl rfl (q_nil rfl) ?_
                  refine Dr.w rfl rfl rfl rfl (q_fieldAddr fo_65_5 rfl rfl) ?_
                  refine Dr.r rfl rfl rfl rfl (Sub.rfl' _) (q_load1 ac_63 rfl (hS.ro 1 rfl _ _ hstb) rfl) ?_
                  refine Dr.w rfl rfl rfl rfl (QOp.eq (v' := .bool b1.trans.isNone) (q_peqn Try.underlying63 rfl rfl) (by show _ = Value.bool _; cases b1.trans <;> rfl)) ?_
                  refine Dr.w rfl rfl rfl rfl (q_pickF rfl rfl) ?_
                  exact Dr.meet 7 [45, 27, 5, 16, 15, 14, 13, 0, 1, 62, 63, 64, 71, 82, 89] hk8_34 rfl (by simp only [hg90, Bool.true_or, Bool.false_or, Bool.true_and, Bool.false_and, Bool.not_true, Bool.not_false]) rfl rfl
              · skip
                refine Dr.w rfl rfl rfl rfl (q_move rfl) ?_
                refine Dr.joinv 123 (.bool (!o.went || o.proc == b1.proc || o.trans.isNone || b1.trans.isNone || (o.conf, transNew o.trans) != (b1.conf, transNew b1.trans))) 26 [45, 27, 5, 16, 15, 14, 13, 0, 1, 62, 63, 64, 71, 82, 89, 96] (fun hk8_61 => ?_) ?_
                · skip
                  refine Dr.split (d := 97) rfl (fun hg97 => ?_) (fun hg97 => ?_)
                  · skip
                    refine Dr.skip rfl rfl rfl rfl ?_
                    refine Dr.skip rfl rfl rfl rfl ?_
                    refine Dr.skip rfl rfl rfl rfl ?_
                    refine Dr.skip rfl rfl rfl rfl ?_
                    refine Dr.skip rfl rfl rfl rfl ?_
                    refine Dr.skip rfl rfl rfl rfl ?_
                    refine Dr.skip rfl rfl rfl rfl ?_
                    refine Dr.skip rfl rfl rfl rfl ?_
                    refine Dr.skip rfl rfl rfl rfl ?_
                    refine Dr.skip rfl rfl rfl rfl ?_
                    refine Dr.skip rfl rfl rfl rfl ?_
                    refine Dr.skip rfl rfl rfl rfl ?_
                    refine Dr.skip rfl rfl rfl rfl ?_
                    refine Dr.skip rfl rfl rfl rfl ?_
                    refine Dr.skip rfl rfl rfl rfl ?_
                    refine Dr.skip rfl rfl rfl rfl ?_
                    refine Dr.skip rfl rfl rfl rfl ?_
                    refine Dr.skip rfl rfl rfl rfl ?_
                    refine Dr.skip rfl rfl rfl rfl ?_
                    refine Dr.skip rfl rfl rfl rfl ?_
                    refine Dr.skip rfl rfl rfl rfl ?_
                    refine Dr.skip rfl rfl rfl rfl ?_
                    refine Dr.skip rfl rfl rfl rfl ?_
                    refine Dr.skip rfl rfl rfl rfl ?_
                    refine Dr.skip rfl rfl rfl rfl ?_
                    refine Dr.w rfl rfl rfl rfl (q_pickT rfl rfl) ?_
                    exact Dr.meet 27 [45, 27, 5, 16, 15, 14, 13, 0, 1, 62, 63, 64, 71, 82, 89, 96] hk8_61 rfl (by first | (simp only [hg97, Bool.true_or]; done) | (rw [hg97, Bool.false_or, hxO, hxB]; rfl)) rfl rfl
                  · obtain ⟨⟨nO, xO⟩, hxO⟩ : ∃ r, o.trans = some r := Option.isSome_iff_exists.1 (by revert hg97; cases o.trans <;> simp)
                    have hevO := hsr _ _ (hwo.trans _ _ hxO)
                    obtain ⟨⟨nB, xB⟩, hxB⟩ : ∃ r, b1.trans = some r := Option.isSome_iff_exists.1 (by revert hg97; cases b1.trans <;> simp)
                    have hevB := hsr _ _ (hwb.trans _ _ hxB)
                    refine Dr.w rfl rfl rfl rfl (q_move rfl) ?_
                    refine Dr.w rfl rfl rfl rfl (q_nil rfl) ?_
                    refine Dr.w rfl rfl rfl rfl (q_fieldAddr fo_65_1 rfl rfl) ?_
                    refine Dr.r rfl rfl rfl rfl (Sub.rfl' _) (q_loadA ac_30 rfl (hS.ro 1 rfl _ _ hsto) (rowN_row rfl)) ?_
                    refine Dr.w rfl rfl rfl rfl (q_move rfl) ?_
                    refine Dr.w rfl rfl rfl rfl (q_nil rfl) ?_
                    refine Dr.w rfl rfl rfl rfl (q_fieldAddr fo_65_5 rfl rfl) ?_
                    refine Dr.r rfl rfl rfl rfl (Sub.rfl' _) (QOp.eq (v' := .pointer (some ⟨nO, 0, none⟩)) (q_load1 ac_63 rfl (hS.ro 1 rfl _ _ hsto) rfl) (by show trp o.trans = _; rw [hxO]; rfl)) ?_
                    refine Dr.w rfl rfl rfl rfl (q_nil rfl) ?_
                    refine Dr.w rfl rfl rfl rfl (q_fieldAddr fo_39_3 rfl rfl) ?_
                    refine Dr.r rfl rfl rfl rfl (Sub.rfl' _) (q_loadA ac_30 rfl (hS.ro 1 rfl _ _ hevO) (rowN_row rfl)) ?_
                    refine Dr.w rfl rfl rfl rfl (q_build rfl zo_113 pl_113 (fillN_fill rfl)) ?_
                    refine Dr.w rfl rfl rfl rfl (q_move rfl) ?_
                    refine Dr.w rfl rfl rfl rfl (q_nil rfl) ?_
                    refine Dr.w rfl rfl rfl rfl (q_fieldAddr fo_65_1 rfl rfl) ?_
                    refine Dr.r rfl rfl rfl rfl (Sub.rfl' _) (q_loadA ac_30 rfl (hS.ro 1 rfl _ _ hstb) (rowN_row rfl)) ?_
                    refine Dr.w rfl rfl rfl rfl (q_move rfl) ?_
                    refine Dr.w rfl rfl rfl rfl (q_nil rfl) ?_
                    refine Dr.w rfl rfl rfl rfl (q_fieldAddr fo_65_5 rfl rfl) ?_
                    refine Dr.r rfl rfl rfl rfl (Sub.rfl' _) (QOp.eq (v' := .pointer (some ⟨nB, 0, none⟩)) (q_load1 ac_63 rfl (hS.ro 1 rfl _ _ hstb) rfl) (by show trp b1.trans = _; rw [hxB]; rfl)) ?_
                    refine Dr.w rfl rfl rfl rfl (q_nil rfl) ?_
                    refine Dr.w rfl rfl rfl rfl (q_fieldAddr fo_39_3 rfl rfl) ?_
                    refine Dr.r rfl rfl rfl rfl (Sub.rfl' _) (q_loadA ac_30 rfl (hS.ro 1 rfl _ _ hevB) (rowN_row rfl)) ?_
                    refine Dr.w rfl rfl rfl rfl (q_build rfl zo_113 pl_113 (fillN_fill rfl)) ?_
                    refine Dr.w rfl rfl rfl rfl (q_ane rfl rfl eg_113 (eq_113 (o.conf, xO.new) (b1.conf, xB.new))) ?_
                    refine Dr.w rfl rfl rfl rfl (q_pickF rfl rfl) ?_
                    exact Dr.meet 27 [45, 27, 5, 16, 15, 14, 13, 0, 1, 62, 63, 64, 71, 82, 89, 96] hk8_61 rfl (by first | (simp only [hg97, Bool.true_or]; done) | (rw [hg97, Bool.false_or, hxO, hxB]; rfl)) rfl rfl
                · skip
                  refine Dr.done ?_
                  refine St.keep [45, 27, 5, 16, 15, 14, 13, 0, 1, 123] ?_
                  show St _ _ _ [(123, _), (45, _), (27, _), (5, _), (16, _), (15, _), (14, _), (13, _), (0, _), (1, _)] _ _ _
                  refine St.cond rfl (fun hc3 => ?_) (fun hc3 => ?_)
                  · skip
                    refine St.exit rfl ?_
                    refine St.region rfl ?_
                    refine Reg.q rfl rfl rfl (q_add rfl rfl (inc64 (by omega))) ?_
                    refine Reg.q rfl rfl rfl (q_move rfl) ?_
                    refine Reg.done ?_
                    refine St.keep [123, 45, 27, 5, 16, 15, 14, 13, 0, 1] ?_
                    show St _ _ _ [(15, _), (123, _), (45, _), (27, _), (5, _), (16, _), (15, _), (14, _), (13, _), (0, _), (1, _)] _ _ _
                    refine St.conv (SubL.list (by rfl)) (Sub.rfl' _) (back ((i + 1, br1)) _ ?_ ?_)
                    · exact ⟨hS, by simp only []; omega, hbr1.trans (least_congr fun q => by simp only []; rw [hat6, hat5, clo6, clo5, hcf, pairsM, hc3, hxN]; simp only [transMem, Option.isSome_none]; cases (q == 6) <;> cases (q == 5) <;> simp [Bool.or_assoc, Bool.or_comm, Bool.or_left_comm])⟩
                    · simp only []; omega
                  · exact absurd hc3 (by rw [hxN]; simp) -- PRUNE
  · simp at hc0
    obtain rfl : i = ss1.length := by omega
    rw [List.take_length] at hbr
    refine St.exit rfl ?_
    refine St.fin Try.func25 .nil (Sub.rfl' _) ?_
    replace hS : Stars (_ :: _ :: rs) _ := hS.top 1 rfl
    replace hS : Stars (Stars [_, _, _] :: _) _ := hS.imp fun h hx => hρ.sub hx
    replace hS := hS.flat
    replace hS : Stars (_ :: _ :: _ :: _ :: rs) _ := hS.top 2 rfl
    replace hS : Stars (_ :: _ :: _ :: _ :: rs) _ := hS.top 2 rfl
    replace hS : Stars (_ :: _ :: _ :: _ :: rs) _ := hS.top 2 rfl
    replace hS : Stars (_ :: _ :: _ :: _ :: rs) _ := hS.top 3 rfl
    exact ⟨_, hS, hbr⟩
end Go.Proofs.Ytdgdbnkhmdncdaa
