/- The monitor: EvDeliver. -/
import Derived.Test.YtdgdbnkhmdncdaaM2
import Derived.Test.YtdgdbnkhmdncdaaMl
set_option linter.unusedSectionVars false
set_option linter.unusedSimpArgs false
set_option linter.unusedVariables false
namespace Go.Proofs.Ytdgdbnkhmdncdaa
open Go.Gw Go.Cs
variable [Env]
set_option maxHeartbeats 1000000
namespace FM5
theorem ac_28 : aggCells Try.prog 28 = some none := by kernel_rfl
theorem ac_3 : aggCells Try.prog 3 = some none := by kernel_rfl
theorem ac_30 : aggCells Try.prog 30 = some (some 2) := by kernel_rfl
theorem ac_31 : aggCells Try.prog 31 = some none := by kernel_rfl
theorem ac_32 : aggCells Try.prog 32 = some none := by kernel_rfl
theorem ac_34 : aggCells Try.prog 34 = some (some 6) := by kernel_rfl
theorem ac_39 : aggCells Try.prog 39 = some (some 19) := by kernel_rfl
theorem ac_4 : aggCells Try.prog 4 = some none := by kernel_rfl
theorem ac_44 : aggCells Try.prog 44 = some none := by kernel_rfl
theorem ac_45 : aggCells Try.prog 45 = some none := by kernel_rfl
theorem ac_47 : aggCells Try.prog 47 = some none := by kernel_rfl
theorem ac_56 : aggCells Try.prog 56 = some none := by kernel_rfl
theorem ac_59 : aggCells Try.prog 59 = some none := by kernel_rfl
theorem ac_60 : aggCells Try.prog 60 = some none := by kernel_rfl
theorem ac_62 : aggCells Try.prog 62 = some none := by kernel_rfl
theorem ac_63 : aggCells Try.prog 63 = some none := by kernel_rfl
theorem ac_77 : aggCells Try.prog 77 = some (some 4) := by kernel_rfl
theorem ac_80 : aggCells Try.prog 80 = some (some 5) := by kernel_rfl
theorem ae_61 : arrElem Try.prog 61 = some (2, 1) := by kernel_rfl
theorem ca_16 : callable Try.prog 16 = true := by kernel_rfl
theorem ca_17 : callable Try.prog 17 = true := by kernel_rfl
theorem ca_26 : callable Try.prog 26 = true := by kernel_rfl
theorem ca_27 : callable Try.prog 27 = true := by kernel_rfl
theorem ca_28 : callable Try.prog 28 = true := by kernel_rfl
theorem ca_29 : callable Try.prog 29 = true := by kernel_rfl
theorem ca_30 : callable Try.prog 30 = true := by kernel_rfl
theorem eg_30 : Try.prog.eqGuardType Try.prog.depth 30 = false := by kernel_rfl
theorem fo_34_0 : fieldOff Try.prog 34 0 = some 0 := by kernel_rfl
theorem fo_34_1 : fieldOff Try.prog 34 1 = some 1 := by kernel_rfl
theorem fo_34_4 : fieldOff Try.prog 34 4 = some 4 := by kernel_rfl
theorem fo_39_1 : fieldOff Try.prog 39 1 = some 1 := by kernel_rfl
theorem fo_39_2 : fieldOff Try.prog 39 2 = some 2 := by kernel_rfl
theorem fo_39_3 : fieldOff Try.prog 39 3 = some 4 := by kernel_rfl
theorem fo_39_4 : fieldOff Try.prog 39 4 = some 6 := by kernel_rfl
theorem fo_39_5 : fieldOff Try.prog 39 5 = some 7 := by kernel_rfl
theorem fo_49_0 : fieldOff Try.prog 49 0 = some 0 := by kernel_rfl
theorem fo_49_1 : fieldOff Try.prog 49 1 = some 1 := by kernel_rfl
theorem fo_49_3 : fieldOff Try.prog 49 3 = some 3 := by kernel_rfl
theorem fo_53_0 : fieldOff Try.prog 53 0 = some 0 := by kernel_rfl
theorem fo_65_1 : fieldOff Try.prog 65 1 = some 1 := by kernel_rfl
theorem fo_65_2 : fieldOff Try.prog 65 2 = some 3 := by kernel_rfl
theorem fo_65_3 : fieldOff Try.prog 65 3 = some 4 := by kernel_rfl
theorem fo_65_4 : fieldOff Try.prog 65 4 = some 6 := by kernel_rfl
theorem fo_65_5 : fieldOff Try.prog 65 5 = some 7 := by kernel_rfl
theorem fo_65_6 : fieldOff Try.prog 65 6 = some 8 := by kernel_rfl
theorem pl_30 : places Try.prog 30 = some #[(0, 1), (1, 1)] := by kernel_rfl
theorem pl_77 : places Try.prog 77 = some #[(0, 2), (2, 1), (3, 1)] := by kernel_rfl
theorem pl_80 : places Try.prog 80 = some #[(0, 1), (1, 4)] := by kernel_rfl
theorem sb_34 : sizeBytes Try.prog 34 = some (6, 72) := by kernel_rfl
theorem se_32 : sliceElem Try.prog 32 = some 1 := by kernel_rfl
theorem se_47 : sliceElem Try.prog 47 = some 1 := by kernel_rfl
theorem se_60 : sliceElem Try.prog 60 = some 6 := by kernel_rfl
theorem so_60 : sliceOf Try.prog 60 = some (34, 6) := by kernel_rfl
theorem sz_30 : szOf Try.prog 30 = some 2 := by kernel_rfl
theorem sz_34 : szOf Try.prog 34 = some 6 := by kernel_rfl
theorem sz_60 : szOf Try.prog 60 = some 1 := by kernel_rfl
theorem sz_77 : szOf Try.prog 77 = some 4 := by kernel_rfl
theorem sz_80 : szOf Try.prog 80 = some 5 := by kernel_rfl
theorem ti_31_3 : toInt Try.prog 31 3 = some .i64 := by kernel_rfl
theorem zo_30 : zeroOf Try.prog 30 = some #[.int .u64 0, .int .i64 0] := by kernel_rfl
theorem zo_34 : zeroOf Try.prog 34 = some #[.int .i64 0, .int .u32 0, .int .u64 0, .int .i64 0, .slice none 0 0, .string ⟨#[]⟩] := by kernel_rfl
theorem zo_77 : zeroOf Try.prog 77 = some #[.int .u64 0, .int .i64 0, .int .i64 0, .int .u32 0] := by kernel_rfl
theorem zo_80 : zeroOf Try.prog 80 = some #[.int .i64 0, .int .u64 0, .int .i64 0, .int .i64 0, .int .u32 0] := by kernel_rfl
theorem zr_34_1 : zrow #[.int .i64 0, .int .u32 0, .int .u64 0, .int .i64 0, .slice none 0 0, .string ⟨#[]⟩] (1 * 6) = #[.int .i64 0, .int .u32 0, .int .u64 0, .int .i64 0, .slice none 0 0, .string ⟨#[]⟩] := by kernel_rfl
theorem zv_3 : zeroV Try.prog 3 = some (.int .i64 0) := by kernel_rfl
theorem zv_4 : zeroV Try.prog 4 = some (.bool false) := by kernel_rfl
theorem zv_60 : zeroV Try.prog 60 = some (.slice none 0 0) := by kernel_rfl
end FM5
open FM5

theorem mdeliver_spec (σ ρ : Heap) (rs : List Asr) (tb sb eb mb sc lb nb : Nat) (sp : Option Addr) (bs : List Nat) (M : MTr) (br : Int) (hbr : br = least M.bad) (sl : List (Who × Value)) (ml : List (Conf × Value)) (lal nal : List (Int × Value)) (N : Nat) (hM : MIs ρ 39 bs M sl ml lal nal N) (hN : N < 100000) (hS : Stars (pt tb (.cells (monC sb eb mb sp M.stays.length sc lb nb br M.len M.at_ M.rule) 53 (0, 0)) :: rowsA 34 6 encSent Msg.cells sb M.sends :: mapA encWho eb sl :: mapA encI lb lal :: mapA encI nb nal :: ownA 56 1 sp M.stays.length sc (bs.flatMap ptrC) :: mstsA bs M.stays :: ro ρ :: rs) σ) (e : Ev) (hok : e.ok ρ) : Does Try.prog 15 #[.pointer (some ⟨tb, 0, none⟩), e.v] σ (fun v τ => ∃ br', Stars (pt tb (.cells (monC sb eb mb sp M.stays.length sc lb nb br' M.len M.at_ M.rule) 53 (0, 0)) :: rowsA 34 6 encSent Msg.cells sb (M.deliver e).sends :: mapA encWho eb (put sl (evWho e) (.bool true)) :: mapA encI lb lal :: mapA encI nb nal :: ownA 56 1 sp M.stays.length sc (bs.flatMap ptrC) :: mstsA bs (M.deliver e).stays :: ro ρ :: rs) τ ∧ br' = least (M.deliver e).bad ∧ MIs ρ 39 bs (M.deliver e) (put sl (evWho e) (.bool true)) ml lal nal (N + 1)) := by
  refine Does.enter (n := 202) (l := [(0, _), (1, _)]) Try.func15 rfl rfl (by simp) rfl ?_
  have hsl := (hM.sends (evSent e)).1
  have hfew := hM.few
  have hdl := hok.1.2
  refine St.seq ?_
  refine St.region rfl ?_
  refine Reg.x rfl rfl rfl (e_box rfl (cellsN_eq rfl) (fun b3 τ3 hb3 => ?_))
  replace hS : Stars (_ :: _ :: _ :: _ :: _ :: _ :: _ :: _ :: _ :: rs) _ := hS.fresh hb3
  refine Reg.done ?_
  refine St.keep [0, 1, 3] ?_
  show St _ _ _ [(3, _), (0, _), (1, _)] _ _ _
  refine St.seq ?_
  refine St.region rfl ?_
  refine Reg.q rfl rfl rfl (q_fieldAddr fo_39_2 rfl rfl) ?_
  refine Reg.q rfl rfl rfl (q_loadA ac_30 rfl (hS.pt 0 rfl) (rowN_row rfl)) ?_
  refine Reg.q rfl rfl rfl (q_fieldAddr fo_39_5 rfl rfl) ?_
  refine Reg.q rfl rfl rfl (q_fieldAddr fo_34_0 rfl rfl) ?_
  refine Reg.q rfl rfl rfl (q_load1 ac_3 rfl (hS.pt 0 rfl) rfl) ?_
  refine Reg.q rfl rfl rfl (q_fieldAddr fo_39_5 rfl rfl) ?_
  refine Reg.q rfl rfl rfl (q_fieldAddr fo_34_1 rfl rfl) ?_
  refine Reg.q rfl rfl rfl (q_load1 ac_31 rfl (hS.pt 0 rfl) rfl) ?_
  refine Reg.q rfl rfl rfl (q_build rfl zo_77 pl_77 (fillN_fill rfl)) ?_
  refine Reg.x rfl rfl rfl (e_alloc zo_77 (fun b4 τ4 hb4 => ?_))
  replace hS : Stars (_ :: _ :: _ :: _ :: _ :: _ :: _ :: _ :: _ :: _ :: rs) _ := hS.fresh hb4
  refine Reg.no rfl rfl (e_store rfl rfl sz_77 rfl (hS.pt 0 rfl) (Nat.le_of_ble_eq_true rfl) rfl (storeN_row rfl) (fun τs1_10 hs1_10 hu1_10 => ?_))
  replace hS : Stars (_ :: _ :: _ :: _ :: _ :: _ :: _ :: _ :: _ :: _ :: rs) _ := (hS.top 0 rfl).ptU hu1_10 hs1_10
  refine Reg.done ?_
  refine St.keep [3, 0, 1, 4] ?_
  show St _ _ _ [(4, _), (3, _), (0, _), (1, _)] _ _ _
  replace hS : Stars (_ :: _ :: _ :: _ :: _ :: _ :: _ :: _ :: _ :: _ :: rs) _ := hS.top 9 rfl
  replace hS : Stars (_ :: _ :: _ :: _ :: _ :: _ :: _ :: _ :: _ :: _ :: rs) _ := hS.top 2 rfl
  obtain ⟨ρ3, hs3, h3, hS'⟩ := hS.roNew
  replace hS := hS'
  replace hS : Stars (_ :: _ :: _ :: _ :: _ :: _ :: _ :: _ :: _ :: rs) _ := hS.top 8 rfl
  replace hS : Stars (_ :: _ :: _ :: _ :: _ :: _ :: _ :: _ :: _ :: rs) _ := hS.top 8 rfl
  replace hS : Stars (_ :: _ :: _ :: _ :: _ :: _ :: _ :: _ :: _ :: rs) _ := hS.top 8 rfl
  replace hS : Stars (_ :: _ :: _ :: _ :: _ :: _ :: _ :: _ :: _ :: rs) _ := hS.top 8 rfl
  replace hS : Stars (_ :: _ :: _ :: _ :: _ :: _ :: _ :: _ :: _ :: rs) _ := hS.top 8 rfl
  replace hS : Stars (_ :: _ :: _ :: _ :: _ :: _ :: _ :: _ :: _ :: rs) _ := hS.top 8 rfl
  replace hS : Stars (_ :: _ :: _ :: _ :: _ :: _ :: _ :: _ :: _ :: rs) _ := hS.top 8 rfl
  replace hS : Stars (_ :: _ :: _ :: _ :: _ :: _ :: _ :: _ :: _ :: rs) _ := hS.top 7 rfl
  replace hS : Stars (_ :: _ :: _ :: _ :: _ :: _ :: _ :: _ :: _ :: rs) _ := hS.top 8 rfl
  obtain ⟨ρ4, hs4, h4, hS'⟩ := hS.roNew
  replace hS := hS'
  replace hS : Stars (_ :: _ :: _ :: _ :: _ :: _ :: _ :: _ :: rs) _ := hS.top 7 rfl
  replace hS : Stars (_ :: _ :: _ :: _ :: _ :: _ :: _ :: _ :: rs) _ := hS.top 7 rfl
  replace hS : Stars (_ :: _ :: _ :: _ :: _ :: _ :: _ :: _ :: rs) _ := hS.top 7 rfl
  replace hS : Stars (_ :: _ :: _ :: _ :: _ :: _ :: _ :: _ :: rs) _ := hS.top 7 rfl
  replace hS : Stars (_ :: _ :: _ :: _ :: _ :: _ :: _ :: _ :: rs) _ := hS.top 7 rfl
  replace hS : Stars (_ :: _ :: _ :: _ :: _ :: _ :: _ :: _ :: rs) _ := hS.top 7 rfl
  replace hS : Stars (_ :: _ :: _ :: _ :: _ :: _ :: _ :: _ :: rs) _ := hS.top 7 rfl
  have hs34 := hs3.trans hs4
  replace h3 := hs4 _ _ h3
  replace hS : Stars (_ :: _ :: _ :: _ :: _ :: _ :: _ :: _ :: rs) _ := hS.top 1 rfl
  obtain ⟨ρd, hd, hS'⟩ := hS.fix
  replace hS := hS'
  obtain ⟨al2, p2, c2, hm2, hlk, hrd⟩ := rows_rd hd (evSent e)
  replace hS : Stars (_ :: _ :: _ :: _ :: _ :: _ :: _ :: _ :: rs) _ := hS.top 7 rfl
  replace hS : Stars (_ :: _ :: _ :: _ :: _ :: _ :: _ :: _ :: rs) _ := hS.top 7 rfl
  replace hS : Stars (_ :: _ :: _ :: _ :: _ :: _ :: _ :: _ :: rs) _ := hS.top 7 rfl
  replace hS : Stars (_ :: _ :: _ :: _ :: _ :: _ :: _ :: _ :: rs) _ := hS.top 7 rfl
  replace hS : Stars (_ :: _ :: _ :: _ :: _ :: _ :: _ :: _ :: rs) _ := hS.top 7 rfl
  replace hS : Stars (_ :: _ :: _ :: _ :: _ :: _ :: _ :: _ :: rs) _ := hS.top 7 rfl
  replace hS : Stars (_ :: _ :: _ :: _ :: _ :: _ :: _ :: _ :: rs) _ := hS.top 6 rfl
  replace hS : Stars (_ :: _ :: _ :: _ :: _ :: _ :: _ :: _ :: rs) _ := hS.top 7 rfl
  refine St.seq ?_
  refine St.region rfl ?_
  refine Reg.q rfl rfl rfl (q_assign rfl) ?_
  refine Reg.done ?_
  refine St.keep [4, 3, 0, 1, 5] ?_
  show St _ _ _ [(5, _), (4, _), (3, _), (0, _), (1, _)] _ _ _
  refine St.seq ?_
  refine St.seq ?_
  refine St.draw0 [] [(0, .w), (1, .w), (2, .w), (3, .w), (4, .r), (5, .r), (6, .r), (7, .r), (8, .w)] mixed (by kernel_rfl) rfl ?_
  refine Dr.w rfl rfl rfl rfl (q_move rfl) ?_
  refine Dr.w rfl rfl rfl rfl (q_nil rfl) ?_
  refine Dr.w rfl rfl rfl rfl (q_fieldAddr fo_53_0 rfl rfl) ?_
  refine Dr.w rfl rfl rfl rfl (q_fieldAddr fo_49_0 rfl rfl) ?_
  refine Dr.r rfl rfl rfl rfl (Sub.rfl' _) (q_load1 ac_44 rfl (hS.pt 0 rfl) rfl) ?_
  refine Dr.r rfl rfl rfl rfl (Sub.rfl' _) (q_loadA ac_77 rfl (hS.ro 7 rfl _ _ h4) (rowN_row rfl)) ?_
  refine Dr.r rfl rfl rfl rfl (Sub.rfl' _) (q_lookup Try.underlying44 key_77 zv_60 rfl (show _ = some (encSent (evSent e)) from rfl) ((mono_map _ _ _) _ _ (hS.ro 1 rfl) hm2) hlk) ?_
  refine Dr.r rfl rfl rfl rfl (Sub.rfl' _) (q_lenS rfl se_60 rfl) ?_
  refine Dr.w rfl rfl rfl rfl (q_move rfl) ?_
  refine Dr.done ?_
  refine St.keep [5, 4, 3, 0, 1, 33, 34, 35] ?_
  show St _ _ _ [(35, _), (34, _), (33, _), (5, _), (4, _), (3, _), (0, _), (1, _)] _ _ _
  refine St.block ?_
  refine St.loopw (Y := Nat × Nat) (fun y => [(35, .int .i64 (y.1 : Nat)), (5, .int .i64 (y.2 : Nat))]) [34, 33, 4, 3, 0, 1] (fun y τ => Stars (pt tb (.cells (monC sb eb mb sp M.stays.length sc lb nb br M.len M.at_ M.rule) 53 (0, 0)) :: ro ρd :: mapA encWho eb sl :: mapA encI lb lal :: mapA encI nb nal :: ownA 56 1 sp M.stays.length sc (bs.flatMap ptrC) :: mstsA bs M.stays :: ro ρ4 :: rs) τ ∧ y.1 ≤ (M.sends (evSent e)).length ∧ y.2 = (((M.sends (evSent e)).take y.1).filter fun y => same e.m y).length) (fun y => (M.sends (evSent e)).length - y.1) ((0, 0)) rfl (⟨hS, Nat.zero_le _, rfl⟩) ?_
  intro ⟨j, n⟩ τ ⟨hS, hj, hn⟩ back
  simp only [] at hS hj hn
  show St _ _ _ [(35, _), (5, _), (34, _), (33, _), (4, _), (3, _), (0, _), (1, _)] _ _ _
  refine St.seq ?_
  refine St.region rfl ?_
  refine Reg.q rfl rfl rfl (q_lt rfl rfl) ?_
  refine Reg.done ?_
  refine St.keep [35, 5, 34, 33, 4, 3, 0, 1, 36] ?_
  show St _ _ _ [(36, _), (35, _), (5, _), (34, _), (33, _), (4, _), (3, _), (0, _), (1, _)] _ _ _
  refine St.seq ?_
  refine St.cond rfl (fun hc0 => ?_) (fun hc0 => ?_)
  · simp at hc0
    obtain ⟨y, hy⟩ : ∃ y, (M.sends (evSent e))[j]? = some y := ⟨_, List.getElem?_eq_getElem hc0⟩
    have hyok := (hM.sends (evSent e)).2 y (List.mem_of_getElem? hy)
    obtain ⟨by_, oy, csy, Ty, fy, hyp, hby, hly, hry⟩ := Rd.row Msg.cells_len (by decide) hrd hy
    have hft := filt_take hy (fun y => same e.m y)
    have hnj := List.length_filter_le (fun y => same e.m y) ((M.sends (evSent e)).take j)
    rw [List.length_take, ← hn] at hnj
    refine St.skip ?_
    refine St.seq ?_
    refine St.block ?_
    refine St.seq ?_
    refine St.region rfl ?_
    refine Reg.q rfl rfl rfl (q_indexAt se_60 rfl hyp rfl (by omega) rfl) ?_
    refine Reg.q rfl rfl rfl (q_loadA ac_34 rfl (hS.ro 1 rfl _ _ hby) (row_partN hry 0 6 (by decide) rfl rfl)) ?_
    refine Reg.x rfl rfl rfl (e_alloc zo_34 (fun b7 τ7 hb7 => ?_))
    replace hS : Stars (_ :: _ :: _ :: _ :: _ :: _ :: _ :: _ :: _ :: rs) _ := hS.fresh hb7
    refine Reg.no rfl rfl (e_store rfl rfl sz_34 rfl (hS.pt 0 rfl) (Nat.le_of_ble_eq_true rfl) rfl (storeN_row rfl) (fun τs5_3 hs5_3 hu5_3 => ?_))
    replace hS : Stars (_ :: _ :: _ :: _ :: _ :: _ :: _ :: _ :: _ :: rs) _ := (hS.top 0 rfl).ptU hu5_3 hs5_3
    refine Reg.done ?_
    refine St.keep [36, 35, 5, 34, 33, 4, 3, 0, 1, 7] ?_
    show St _ _ _ [(7, _), (36, _), (35, _), (5, _), (34, _), (33, _), (4, _), (3, _), (0, _), (1, _)] _ _ _
    refine St.seq ?_
    refine St.region rfl ?_
    refine Reg.q rfl rfl rfl (q_fieldAddr fo_39_5 rfl rfl) ?_
    refine Reg.q rfl rfl rfl (q_loadA ac_34 rfl (hS.ro 8 rfl _ _ h3) (rowN_row rfl)) ?_
    refine Reg.q rfl rfl rfl (q_loadA ac_34 rfl (hS.pt 0 rfl) (rowN_row rfl)) ?_
    refine Reg.x rfl rfl rfl (e_callF rfl rfl rfl ca_26 ((msame_spec _ e.m y (hok.1.up (hs34.trans (hS.ro 8 rfl))) (hyok.up (hs34.trans (hS.ro 8 rfl)))).mono fun v42 τ42 h42 => ?_))
    obtain ⟨rfl, rfl⟩ := h42
    refine Reg.done ?_
    refine St.keep [7, 36, 35, 5, 34, 33, 4, 3, 0, 1, 42] ?_
    show St _ _ _ [(42, _), (7, _), (36, _), (35, _), (5, _), (34, _), (33, _), (4, _), (3, _), (0, _), (1, _)] _ _ _
    refine St.cond rfl (fun hc1 => ?_) (fun hc1 => ?_)
    · skip
      refine St.region rfl ?_
      refine Reg.q rfl rfl rfl (q_move rfl) ?_
      refine Reg.q rfl rfl rfl (q_add rfl rfl (inc64 (by omega))) ?_
      refine Reg.q rfl rfl rfl (q_assign rfl) ?_
      refine Reg.done ?_
      refine St.keep [42, 7, 36, 35, 5, 34, 33, 4, 3, 0, 1] ?_
      show St _ _ _ [(5, _), (42, _), (7, _), (36, _), (35, _), (5, _), (34, _), (33, _), (4, _), (3, _), (0, _), (1, _)] _ _ _
      refine St.inBlock ?_
      refine St.region rfl ?_
      refine Reg.q rfl rfl rfl (q_add rfl rfl (inc64 (by omega))) ?_
      refine Reg.q rfl rfl rfl (q_move rfl) ?_
      refine Reg.done ?_
      refine St.keep [5, 42, 7, 36, 35, 5, 34, 33, 4, 3, 0, 1] ?_
      show St _ _ _ [(35, _), (5, _), (42, _), (7, _), (36, _), (35, _), (5, _), (34, _), (33, _), (4, _), (3, _), (0, _), (1, _)] _ _ _
      replace hS := hS.drop
      refine St.conv (SubL.list (by rfl)) (Sub.rfl' _) (back ((j + 1, n + 1)) _ ?_ ?_)
      · exact ⟨hS, by simp only []; omega, by simp only []; rw [hft, hc1, hn]; rfl⟩
      · simp only []; omega
    · skip
      refine St.skip ?_
      refine St.inBlock ?_
      refine St.region rfl ?_
      refine Reg.q rfl rfl rfl (q_add rfl rfl (inc64 (by omega))) ?_
      refine Reg.q rfl rfl rfl (q_move rfl) ?_
      refine Reg.done ?_
      refine St.keep [42, 7, 36, 35, 5, 34, 33, 4, 3, 0, 1] ?_
      show St _ _ _ [(35, _), (42, _), (7, _), (36, _), (35, _), (5, _), (34, _), (33, _), (4, _), (3, _), (0, _), (1, _)] _ _ _
      replace hS := hS.drop
      refine St.conv (SubL.list (by rfl)) (Sub.rfl' _) (back ((j + 1, n)) _ ?_ ?_)
      · exact ⟨hS, by simp only []; omega, by simp only []; rw [hft, hc1, hn]; rfl⟩
      · simp only []; omega
  · simp at hc0
    obtain rfl : j = (M.sends (evSent e)).length := by omega
    rw [List.take_length] at hn
    have hn1 : n = sendN M e := hn
    subst hn1
    replace hS : Stars (_ :: _ :: _ :: _ :: _ :: _ :: _ :: _ :: rs) _ := hS.top 1 rfl
    replace hS : Stars (rowsA 34 6 encSent Msg.cells sb M.sends :: _) _ := hS.imp fun h hx => mono_rows _ _ _ _ _ _ _ _ hx hd
    replace hS : Stars (_ :: _ :: _ :: _ :: _ :: _ :: _ :: _ :: rs) _ := hS.top 7 rfl
    replace hS : Stars (_ :: _ :: _ :: _ :: _ :: _ :: _ :: _ :: rs) _ := hS.top 7 rfl
    replace hS : Stars (_ :: _ :: _ :: _ :: _ :: _ :: _ :: _ :: rs) _ := hS.top 7 rfl
    replace hS : Stars (_ :: _ :: _ :: _ :: _ :: _ :: _ :: _ :: rs) _ := hS.top 7 rfl
    replace hS : Stars (_ :: _ :: _ :: _ :: _ :: _ :: _ :: _ :: rs) _ := hS.top 7 rfl
    replace hS : Stars (_ :: _ :: _ :: _ :: _ :: _ :: _ :: _ :: rs) _ := hS.top 7 rfl
    replace hS : Stars (_ :: _ :: _ :: _ :: _ :: _ :: _ :: _ :: rs) _ := hS.top 6 rfl
    replace hS : Stars (_ :: _ :: _ :: _ :: _ :: _ :: _ :: _ :: rs) _ := hS.top 7 rfl
    refine St.exit rfl ?_
    refine St.seq ?_
    refine St.region rfl ?_
    refine Reg.q rfl rfl rfl (q_move rfl) ?_
    refine Reg.q rfl rfl rfl (q_move rfl) ?_
    refine Reg.q rfl rfl rfl (q_ine rfl rfl) ?_
    refine Reg.x rfl rfl rfl (e_callF rfl rfl rfl ca_17 ((mbreaks_spec _ _ _ _ _ _ _ _ _ _ _ _ _ _ _ hS _ _).mono fun v49 τ49 h49 => ?_))
    replace hS := h49
    replace hbr := least_brk ((sendN M e : Int) != 1) hbr (show (1 : Int) ≤ 2 by decide) (by decide)
    refine Reg.done ?_
    refine St.keep [36, 35, 5, 34, 33, 4, 3, 0, 1] ?_
    show St _ _ _ [(36, _), (35, _), (5, _), (34, _), (33, _), (4, _), (3, _), (0, _), (1, _)] _ _ _
    refine St.seq ?_
    refine St.region rfl ?_
    refine Reg.q rfl rfl rfl (q_fieldAddr fo_39_1 rfl rfl) ?_
    refine Reg.q rfl rfl rfl (q_load1 ac_3 rfl (hS.ro 7 rfl _ _ h3) rfl) ?_
    refine Reg.q rfl rfl rfl (q_loadA ac_77 rfl (hS.ro 7 rfl _ _ h4) (rowN_row rfl)) ?_
    refine Reg.q rfl rfl rfl (q_build rfl zo_80 pl_80 (fillN_fill rfl)) ?_
    refine Reg.x rfl rfl rfl (e_alloc zo_80 (fun b8 τ8 hb8 => ?_))
    replace hS : Stars (_ :: _ :: _ :: _ :: _ :: _ :: _ :: _ :: _ :: rs) _ := hS.fresh hb8
    refine Reg.no rfl rfl (e_store rfl rfl sz_80 rfl (hS.pt 0 rfl) (Nat.le_of_ble_eq_true rfl) rfl (storeN_row rfl) (fun τs10_5 hs10_5 hu10_5 => ?_))
    replace hS : Stars (_ :: _ :: _ :: _ :: _ :: _ :: _ :: _ :: _ :: rs) _ := (hS.top 0 rfl).ptU hu10_5 hs10_5
    refine Reg.done ?_
    refine St.keep [36, 35, 5, 34, 33, 4, 3, 0, 1, 8] ?_
    show St _ _ _ [(8, _), (36, _), (35, _), (5, _), (34, _), (33, _), (4, _), (3, _), (0, _), (1, _)] _ _ _
    replace hS : Stars (_ :: _ :: _ :: _ :: _ :: _ :: _ :: _ :: _ :: rs) _ := hS.top 8 rfl
    replace hS : Stars (_ :: _ :: _ :: _ :: _ :: _ :: _ :: _ :: _ :: rs) _ := hS.top 1 rfl
    obtain ⟨ρ8, hs8, h8, hS'⟩ := hS.roNew
    replace hS := hS'
    replace hS : Stars (_ :: _ :: _ :: _ :: _ :: _ :: _ :: _ :: rs) _ := hS.top 7 rfl
    replace hS : Stars (_ :: _ :: _ :: _ :: _ :: _ :: _ :: _ :: rs) _ := hS.top 7 rfl
    replace hS : Stars (_ :: _ :: _ :: _ :: _ :: _ :: _ :: _ :: rs) _ := hS.top 7 rfl
    replace hS : Stars (_ :: _ :: _ :: _ :: _ :: _ :: _ :: _ :: rs) _ := hS.top 7 rfl
    replace hS : Stars (_ :: _ :: _ :: _ :: _ :: _ :: _ :: _ :: rs) _ := hS.top 7 rfl
    replace hS : Stars (_ :: _ :: _ :: _ :: _ :: _ :: _ :: _ :: rs) _ := hS.top 7 rfl
    replace hS : Stars (_ :: _ :: _ :: _ :: _ :: _ :: _ :: _ :: rs) _ := hS.top 7 rfl
    have hs348 := hs34.trans hs8
    replace h3 := hs8 _ _ h3
    refine St.seq ?_
    refine St.draw0 [8] [(0, .w), (1, .w), (2, .w), (3, .w), (4, .w), (5, .r), (6, .r), (7, .r), (8, .x)] mixed (by kernel_rfl) rfl ?_
    refine Dr.w rfl rfl rfl rfl (q_move rfl) ?_
    refine Dr.w rfl rfl rfl rfl (q_move rfl) ?_
    refine Dr.w rfl rfl rfl rfl (q_nil rfl) ?_
    refine Dr.w rfl rfl rfl rfl (q_fieldAddr fo_53_0 rfl rfl) ?_
    refine Dr.w rfl rfl rfl rfl (q_fieldAddr fo_49_1 rfl rfl) ?_
    refine Dr.r rfl rfl rfl rfl (Sub.rfl' _) (q_load1 ac_45 rfl (hS.pt 0 rfl) rfl) ?_
    refine Dr.r rfl rfl rfl rfl (Sub.rfl' _) (q_loadA ac_80 rfl (hS.ro 7 rfl _ _ h8) (rowN_row rfl)) ?_
    refine Dr.r rfl rfl rfl rfl (Sub.rfl' _) (q_lookup Try.underlying45 key_80 zv_4 rfl (show _ = some (encWho (evWho e)) from rfl) (hS.map 2 rfl) (hM.seen (evWho e))) ?_
    refine Dr.x rfl rfl rfl rfl (e_callF rfl rfl rfl ca_17 ((mbreaks_spec _ _ _ _ _ _ _ _ _ _ _ _ _ _ _ hS _ _).mono fun v62 τ62 h62 => ?_))
    replace hS := h62
    replace hbr := least_brk (M.seen (evWho e)) hbr (show (1 : Int) ≤ 3 by decide) (by decide)
    refine ⟨.inl rfl, ?_⟩
    refine Dr.done ?_
    refine St.keep [8, 36, 35, 5, 34, 33, 4, 3, 0, 1] ?_
    show St _ _ _ [(8, _), (36, _), (35, _), (5, _), (34, _), (33, _), (4, _), (3, _), (0, _), (1, _)] _ _ _
    refine St.seq ?_
    refine St.draw0 [6] [(0, .w), (1, .w), (2, .w), (3, .w), (4, .r), (5, .r), (6, .x)] mixed (by kernel_rfl) rfl ?_
    refine Dr.w rfl rfl rfl rfl (q_move rfl) ?_
    refine Dr.w rfl rfl rfl rfl (q_nil rfl) ?_
    refine Dr.w rfl rfl rfl rfl (q_fieldAddr fo_53_0 rfl rfl) ?_
    refine Dr.w rfl rfl rfl rfl (q_fieldAddr fo_49_1 rfl rfl) ?_
    refine Dr.r rfl rfl rfl rfl (Sub.rfl' _) (q_load1 ac_45 rfl (hS.pt 0 rfl) rfl) ?_
    refine Dr.r rfl rfl rfl rfl (Sub.rfl' _) (q_loadA ac_80 rfl (hS.ro 7 rfl _ _ h8) (rowN_row rfl)) ?_
    refine Dr.no rfl rfl rfl (e_mapUpdate Try.underlying45 key_80 rfl (show _ = some (encWho (evWho e)) from rfl) rfl (hS.map 2 rfl) (fun τu12_6 hmu12_6 huu12_6 => ⟨.inl rfl, ?_⟩))
    replace hS : Stars (_ :: _ :: _ :: _ :: _ :: _ :: _ :: _ :: rs) _ := (hS.top 2 rfl).mapU huu12_6 hmu12_6
    refine Dr.done ?_
    refine St.keep [8, 36, 35, 5, 34, 33, 4, 3, 0, 1] ?_
    show St _ _ _ [(8, _), (36, _), (35, _), (5, _), (34, _), (33, _), (4, _), (3, _), (0, _), (1, _)] _ _ _
    refine St.seq ?_
    refine St.region rfl ?_
    refine Reg.q rfl rfl rfl (q_move rfl) ?_
    refine Reg.q rfl rfl rfl (q_loadA ac_39 rfl (hS.ro 7 rfl _ _ h3) (rowN_row rfl)) ?_
    replace hS : Stars (_ :: _ :: _ :: _ :: _ :: _ :: _ :: _ :: rs) _ := hS.top 7 rfl
    replace hS : Stars (_ :: _ :: _ :: _ :: _ :: _ :: _ :: _ :: rs) _ := hS.top 7 rfl
    replace hS : Stars (_ :: _ :: _ :: _ :: _ :: _ :: _ :: _ :: rs) _ := hS.top 6 rfl
    replace hS : Stars (_ :: _ :: _ :: _ :: _ :: _ :: _ :: _ :: rs) _ := hS.top 6 rfl
    replace hS : Stars (_ :: _ :: _ :: _ :: _ :: _ :: _ :: _ :: rs) _ := hS.top 5 rfl
    refine Reg.x rfl rfl rfl (e_callF rfl rfl rfl ca_16 ((mstay_spec _ ρ8 _ _ _ _ _ _ _ _ _ _ _ _ _ _ _ hbr bs M sl ml lal nal N (hM.up hs348 (Nat.le_refl _)) hS e).mono fun v71 τ71 h71 => ?_))
    obtain ⟨br2, rfl, hS, hbr⟩ := h71
    refine Reg.q rfl rfl rfl (q_assign rfl) ?_
    refine Reg.done ?_
    refine St.keep [8, 36, 35, 5, 34, 33, 4, 3, 0, 1, 9] ?_
    show St _ _ _ [(9, _), (8, _), (36, _), (35, _), (5, _), (34, _), (33, _), (4, _), (3, _), (0, _), (1, _)] _ _ _
    refine St.seq ?_
    refine St.seq ?_
    refine St.region rfl ?_
    refine Reg.q rfl rfl rfl (q_move rfl) ?_
    refine Reg.q rfl rfl rfl (QOp.eq (v' := .bool (M.stayAt e).isNone) (q_peqn Try.underlying56 rfl rfl) (congrArg Value.bool (stay_none hM e))) ?_
    refine Reg.done ?_
    refine St.keep [9, 8, 36, 35, 5, 34, 33, 4, 3, 0, 1, 73] ?_
    show St _ _ _ [(73, _), (9, _), (8, _), (36, _), (35, _), (5, _), (34, _), (33, _), (4, _), (3, _), (0, _), (1, _)] _ _ _
    refine St.cond rfl (fun hc2 => ?_) (fun hc2 => ?_)
    · have hse : M.stayAt e = none := by cases h : M.stayAt e with | none => rfl | some x => rw [h] at hc2; cases hc2
      refine St.ret Try.func15 .nil (Sub.rfl' _) ?_
      replace hS : Stars (_ :: _ :: _ :: _ :: _ :: _ :: _ :: _ :: rs) _ := hS.top 4 rfl
      replace hS : Stars (ro ρ :: _) _ := hS.imp fun h hx => hs348.trans hx
      replace hS : Stars (_ :: _ :: _ :: _ :: _ :: _ :: _ :: _ :: rs) _ := hS.top 4 rfl
      replace hS : Stars (_ :: _ :: _ :: _ :: _ :: _ :: _ :: _ :: rs) _ := hS.top 7 rfl
      replace hS : Stars (_ :: _ :: _ :: _ :: _ :: _ :: _ :: _ :: rs) _ := hS.top 5 rfl
      replace hS : Stars (_ :: _ :: _ :: _ :: _ :: _ :: _ :: _ :: rs) _ := hS.top 5 rfl
      replace hS : Stars (_ :: _ :: _ :: _ :: _ :: _ :: _ :: _ :: rs) _ := hS.top 6 rfl
      replace hS : Stars (_ :: _ :: _ :: _ :: _ :: _ :: _ :: _ :: rs) _ := hS.top 7 rfl
      replace hS : Stars (_ :: _ :: _ :: _ :: _ :: _ :: _ :: _ :: rs) _ := hS.top 7 rfl
      obtain ⟨m1, m2⟩ := mdeliver_none hse
      obtain ⟨r1, r2, r3, r4, r5, r6, r7, r8⟩ := mdeliver_rest M e
      refine ⟨_, ?_, hbr.trans (least_congr fun q => by rw [m2, hse]; rfl), hM.deliver e hok.1⟩
      rw [m1, r1]; exact hS
    · obtain ⟨k, s, bk, hse, hs, hbk⟩ := stay_get hM e (by cases h : M.stayAt e with | none => rw [h] at hc2; cases hc2 | some _ => rfl)
      have hklt : k < M.stays.length := (List.getElem?_eq_some_iff.1 hs).1
      have hws := hM.wf s (List.mem_of_getElem? hs)
      have hwsf := hws.few
      have hal : s.all.length = s.p0.length + s.p1.length := List.length_append
      replace hS : Stars (_ :: _ :: _ :: _ :: _ :: _ :: _ :: _ :: rs) _ := hS.top 3 rfl
      obtain ⟨a0, c0, a1, c1, cb, cl, hcn, hS'⟩ := msts_open hS hbk hs
      replace hS := hS'
      have hK71 := hS.pt 0 rfl
      have hro71 := hS.ro 8 rfl
      have e9 : blk ((M.stayAt e).bind fun x => bs[x.1]?) = .pointer (some ⟨bk, 0, none⟩) := by rw [hse]; show blk (bs[k]?) = _; rw [hbk]; rfl
      rw [e9]
      refine St.skip ?_
      refine St.seq ?_
      refine St.draw0 [] [(0, .w), (1, .w), (2, .w), (3, .w), (4, .r), (5, .x), (6, .w), (7, .x), (8, .w)] mixed (by kernel_rfl) rfl ?_
      refine Dr.w rfl rfl rfl rfl (q_build rfl zo_30 pl_30 (fillN_fill rfl)) ?_
      refine Dr.w rfl rfl rfl rfl (q_move rfl) ?_
      refine Dr.w rfl rfl rfl rfl (q_nil rfl) ?_
      refine Dr.w rfl rfl rfl rfl (q_fieldAddr fo_65_2 rfl rfl) ?_
      refine Dr.r rfl rfl rfl rfl (Sub.rfl' _) (q_load1 ac_59 rfl (hS.pt 0 rfl) rfl) ?_
      refine Dr.x rfl rfl rfl rfl (e_alloc zo_30 (fun b11 τ11 hb11 => ⟨.inr hb11.sub, ?_⟩))
      replace hS : Stars (_ :: _ :: _ :: _ :: _ :: _ :: _ :: _ :: _ :: _ :: _ :: _ :: _ :: rs) _ := hS.fresh hb11
      refine Dr.w rfl rfl rfl rfl (q_assign rfl) ?_
      refine Dr.no rfl rfl rfl (e_store rfl rfl sz_30 rfl (hS.pt 0 rfl) (Nat.le_of_ble_eq_true rfl) rfl (storeN_row rfl) (fun τs15_7 hs15_7 hu15_7 => ⟨.inr (hu15_7.own hb11.sub hb11.none), ?_⟩))
      replace hS : Stars (_ :: _ :: _ :: _ :: _ :: _ :: _ :: _ :: _ :: _ :: _ :: _ :: _ :: rs) _ := (hS.top 0 rfl).ptU hu15_7 hs15_7
      refine Dr.w rfl rfl rfl rfl (q_assign rfl) ?_
      refine Dr.done ?_
      refine St.keep [73, 9, 8, 36, 35, 5, 34, 33, 4, 3, 0, 1, 11, 10, 12] ?_
      show St _ _ _ [(12, _), (10, _), (11, _), (73, _), (9, _), (8, _), (36, _), (35, _), (5, _), (34, _), (33, _), (4, _), (3, _), (0, _), (1, _)] _ _ _
      have hs715 := hu15_7.own hb11.sub hb11.none
      refine St.seq ?_
      refine St.seq ?_
      refine St.region rfl ?_
      refine Reg.q rfl rfl rfl (q_move rfl) ?_
      refine Reg.q rfl rfl rfl (q_nil rfl) ?_
      refine Reg.q rfl rfl rfl (q_fieldAddr fo_65_5 rfl rfl) ?_
      refine Reg.q rfl rfl rfl (q_load1 ac_63 rfl (hS.pt 1 rfl) rfl) ?_
      refine Reg.q rfl rfl rfl (QOp.eq (v' := .bool s.trans.isSome) (q_pnen Try.underlying63 rfl rfl) (by show _ = Value.bool _; cases s.trans <;> rfl)) ?_
      refine Reg.done ?_
      refine St.keep [12, 10, 11, 73, 9, 8, 36, 35, 5, 34, 33, 4, 3, 0, 1, 83] ?_
      show St _ _ _ [(83, _), (12, _), (10, _), (11, _), (73, _), (9, _), (8, _), (36, _), (35, _), (5, _), (34, _), (33, _), (4, _), (3, _), (0, _), (1, _)] _ _ _
      refine St.cond rfl (fun hc3 => ?_) (fun hc3 => ?_)
      · obtain ⟨⟨nB, xB⟩, hxB⟩ : ∃ r, s.trans = some r := Option.isSome_iff_exists.1 hc3
        have hevB := hs348 _ _ (hws.trans _ _ hxB)
        refine St.draw τ71 [] [(0, .w), (1, .w), (2, .w), (3, .r), (4, .w), (5, .w), (6, .r), (7, .w), (8, .w), (9, .w), (10, .r), (11, .w), (12, .w), (13, .r), (14, .w), (15, .x), (16, .w)] mixed (by kernel_rfl) rfl ?_
        refine Dr.w rfl rfl rfl rfl (q_move rfl) ?_
        refine Dr.w rfl rfl rfl rfl (q_nil rfl) ?_
        refine Dr.w rfl rfl rfl rfl (q_fieldAddr fo_65_5 rfl rfl) ?_
        refine Dr.r rfl rfl rfl rfl hs715 (QOp.eq (v' := .pointer (some ⟨nB, 0, none⟩)) (q_load1 ac_63 rfl hK71 rfl) (by show trp s.trans = _; rw [hxB]; rfl)) ?_
        refine Dr.w rfl rfl rfl rfl (q_nil rfl) ?_
        refine Dr.w rfl rfl rfl rfl (q_fieldAddr fo_39_3 rfl rfl) ?_
        refine Dr.r rfl rfl rfl rfl hs715 (q_loadA ac_30 rfl (hro71 _ _ hevB) (rowN_row rfl)) ?_
        refine Dr.w rfl rfl rfl rfl (q_move rfl) ?_
        refine Dr.w rfl rfl rfl rfl (q_nil rfl) ?_
        refine Dr.w rfl rfl rfl rfl (q_fieldAddr fo_65_5 rfl rfl) ?_
        refine Dr.r rfl rfl rfl rfl hs715 (QOp.eq (v' := .pointer (some ⟨nB, 0, none⟩)) (q_load1 ac_63 rfl hK71 rfl) (by show trp s.trans = _; rw [hxB]; rfl)) ?_
        refine Dr.w rfl rfl rfl rfl (q_nil rfl) ?_
        refine Dr.w rfl rfl rfl rfl (q_fieldAddr fo_39_4 rfl rfl) ?_
        refine Dr.r rfl rfl rfl rfl hs715 (q_load1 ac_28 rfl (hro71 _ _ hevB) rfl) ?_
        refine Dr.w rfl rfl rfl rfl (q_assign rfl) ?_
        refine Dr.no rfl rfl rfl (e_store rfl rfl sz_30 rfl (hS.pt 0 rfl) (Nat.le_of_ble_eq_true rfl) rfl (storeN_row rfl) (fun τs17_15 hs17_15 hu17_15 => ⟨.inr (hu17_15.own hs715 hb11.none), ?_⟩))
        replace hS : Stars (_ :: _ :: _ :: _ :: _ :: _ :: _ :: _ :: _ :: _ :: _ :: _ :: _ :: rs) _ := (hS.top 0 rfl).ptU hu17_15 hs17_15
        refine Dr.w rfl rfl rfl rfl (q_assign rfl) ?_
        refine Dr.done ?_
        refine St.keep [83, 12, 10, 11, 73, 9, 8, 36, 35, 5, 34, 33, 4, 3, 0, 1] ?_
        show St _ _ _ [(12, _), (10, _), (83, _), (12, _), (10, _), (11, _), (73, _), (9, _), (8, _), (36, _), (35, _), (5, _), (34, _), (33, _), (4, _), (3, _), (0, _), (1, _)] _ _ _
        refine St.seq ?_
        refine St.region rfl ?_
        refine Reg.q rfl rfl rfl (q_move rfl) ?_
        refine Reg.q rfl rfl rfl (q_fieldAddr fo_39_3 rfl rfl) ?_
        refine Reg.q rfl rfl rfl (q_loadA ac_30 rfl (hS.ro 9 rfl _ _ h3) (rowN_row rfl)) ?_
        refine Reg.q rfl rfl rfl (q_loadA ac_30 rfl (hS.pt 0 rfl) (rowN_row rfl)) ?_
        refine Reg.q rfl rfl rfl (q_ane rfl rfl eg_30 (eq_30 e.new xB.new)) ?_
        replace hS : Stars (_ :: _ :: _ :: _ :: _ :: _ :: _ :: _ :: _ :: _ :: _ :: _ :: _ :: rs) _ := hS.top 6 rfl
        refine Reg.x rfl rfl rfl (e_callF rfl rfl rfl ca_17 ((mbreaks_spec _ _ _ _ _ _ _ _ _ _ _ _ _ _ _ hS _ _).mono fun v103 τ103 h103 => ?_))
        replace hS := h103
        replace hbr := least_brk (e.new != xB.new) hbr (show (1 : Int) ≤ 2 by decide) (by decide)
        refine Reg.done ?_
        refine St.keep [12, 10, 83, 12, 10, 11, 73, 9, 8, 36, 35, 5, 34, 33, 4, 3, 0, 1] ?_
        show St _ _ _ [(12, _), (10, _), (83, _), (12, _), (10, _), (11, _), (73, _), (9, _), (8, _), (36, _), (35, _), (5, _), (34, _), (33, _), (4, _), (3, _), (0, _), (1, _)] _ _ _
        replace hS : Stars (_ :: _ :: _ :: _ :: _ :: _ :: _ :: _ :: _ :: _ :: _ :: _ :: _ :: rs) _ := hS.top 1 rfl
        replace hS := hS.drop
        refine St.seq ?_
        refine St.seq ?_
        refine St.region rfl ?_
        refine Reg.q rfl rfl rfl (q_move rfl) ?_
        refine Reg.x rfl rfl rfl (e_callF rfl rfl rfl ca_27 ((mall_spec _ bk s _ _ _ _ _ (hS.pt 1 rfl) (hS.own 2 rfl).rd (hS.own 3 rfl).rd (by omega)).mono fun v105 τ105 h105 => ?_))
        obtain ⟨q1, c1_, rfl, hsub1, hrd1⟩ := h105
        replace hS := hS.sub hsub1
        refine Reg.q rfl rfl rfl (q_assign rfl) ?_
        refine Reg.done ?_
        refine St.keep [12, 10, 83, 12, 10, 11, 73, 9, 8, 36, 35, 5, 34, 33, 4, 3, 0, 1, 13] ?_
        show St _ _ _ [(13, _), (12, _), (10, _), (83, _), (12, _), (10, _), (11, _), (73, _), (9, _), (8, _), (36, _), (35, _), (5, _), (34, _), (33, _), (4, _), (3, _), (0, _), (1, _)] _ _ _
        refine St.seq ?_
        refine St.region rfl ?_
        refine Reg.q rfl rfl rfl (q_move rfl) ?_
        refine Reg.q rfl rfl rfl (q_lenS rfl se_60 rfl) ?_
        refine Reg.q rfl rfl rfl (q_gt rfl rfl) ?_
        refine Reg.done ?_
        refine St.keep [13, 12, 10, 83, 12, 10, 11, 73, 9, 8, 36, 35, 5, 34, 33, 4, 3, 0, 1, 108] ?_
        show St _ _ _ [(108, _), (13, _), (12, _), (10, _), (83, _), (12, _), (10, _), (11, _), (73, _), (9, _), (8, _), (36, _), (35, _), (5, _), (34, _), (33, _), (4, _), (3, _), (0, _), (1, _)] _ _ _
        replace hS : Stars (_ :: _ :: _ :: _ :: _ :: _ :: _ :: _ :: _ :: _ :: _ :: _ :: rs) _ := hS.top 8 rfl
        replace hS : Stars (_ :: _ :: _ :: _ :: _ :: _ :: _ :: _ :: _ :: _ :: _ :: _ :: rs) _ := hS.top 8 rfl
        replace hS : Stars (_ :: _ :: _ :: _ :: _ :: _ :: _ :: _ :: _ :: _ :: _ :: _ :: rs) _ := hS.top 8 rfl
        replace hS : Stars (_ :: _ :: _ :: _ :: _ :: _ :: _ :: _ :: _ :: _ :: _ :: _ :: rs) _ := hS.top 9 rfl
        replace hS : Stars (_ :: _ :: _ :: _ :: _ :: _ :: _ :: _ :: _ :: _ :: _ :: _ :: rs) _ := hS.top 10 rfl
        replace hS : Stars (_ :: _ :: _ :: _ :: _ :: _ :: _ :: _ :: _ :: _ :: _ :: _ :: rs) _ := hS.top 11 rfl
        replace hS : Stars (_ :: _ :: _ :: _ :: _ :: _ :: _ :: _ :: _ :: _ :: _ :: _ :: rs) _ := hS.top 11 rfl
        replace hS : Stars (_ :: _ :: _ :: _ :: _ :: _ :: _ :: _ :: _ :: _ :: _ :: _ :: rs) _ := hS.top 11 rfl
        replace hS : Stars (_ :: _ :: _ :: _ :: _ :: _ :: _ :: _ :: _ :: _ :: _ :: _ :: rs) _ := hS.top 11 rfl
        replace hS : Stars (_ :: _ :: _ :: _ :: _ :: _ :: _ :: _ :: _ :: _ :: _ :: _ :: rs) _ := hS.top 11 rfl
        replace hS : Stars (_ :: _ :: _ :: _ :: _ :: _ :: _ :: _ :: _ :: _ :: _ :: _ :: rs) _ := hS.top 11 rfl
        replace hS : Stars (_ :: _ :: _ :: _ :: _ :: _ :: _ :: _ :: _ :: _ :: _ :: _ :: rs) _ := hS.top 11 rfl
        refine St.joinh [108, 13, 12, 10, 83, 11, 73, 9, 8, 36, 35, 5, 34, 33, 4, 3, 0, 1] (Stars (pt tb (.cells (monC sb eb mb sp M.stays.length sc lb nb (brkI (brkI br2 2 (e.new != xB.new)) 3 (lastBad s.all e.m)) M.len M.at_ M.rule) 53 (0, 0)) :: pt bk (.cells (mstC s a0 c0 a1 c1 cb) 65 (0, 0)) :: ownA 34 6 a0 s.p0.length c0 (s.p0.flatMap Msg.cells) :: ownA 34 6 a1 s.p1.length c1 (s.p1.flatMap Msg.cells) :: mapA encI cb cl :: mholeA bs M.stays k :: ownA 56 1 sp M.stays.length sc (bs.flatMap ptrC) :: rowsA 34 6 encSent Msg.cells sb M.sends :: mapA encWho eb (put sl (evWho e) (.bool true)) :: mapA encI lb lal :: mapA encI nb nal :: ro ρ8 :: rs)) (fun hkh4 => ?_) ?_
        · skip
          refine St.cond rfl (fun hc4 => ?_) (fun hc4 => ?_)
          · have hpos : 0 < s.all.length := by simpa using hc4
            obtain ⟨x, hx⟩ : ∃ x, s.all[s.all.length - 1]? = some x := ⟨_, List.getElem?_eq_getElem (by omega)⟩
            obtain ⟨bx, ox, csx, Tx, fx, hxp, hbx, hlx, hrx⟩ := Rd.row Msg.cells_len (by decide) hrd1 hx
            have hlb : lastBad s.all e.m = decide (cmpK x e.m ≥ 0) := by rw [lastBad, List.getLast?_eq_getElem?, hx]
            refine St.draw0 [10, 11, 13] [(0, .w), (1, .w), (2, .w), (3, .r), (4, .w), (5, .w), (6, .r), (8, .w), (9, .r), (7, .x), (10, .x), (11, .x), (12, .w), (13, .x)] mixed (by kernel_rfl) rfl ?_
            refine Dr.w rfl rfl rfl rfl (q_move rfl) ?_
            refine Dr.w rfl rfl rfl rfl (q_move rfl) ?_
            refine Dr.w rfl rfl rfl rfl (q_move rfl) ?_
            refine Dr.r rfl rfl rfl rfl (Sub.rfl' _) (q_lenS rfl se_60 rfl) ?_
            refine Dr.w rfl rfl rfl rfl (q_sub rfl rfl (show _ = ((s.all.length - 1 : Nat) : Int) from (wrap64 (by omega)).trans (by omega))) ?_
            refine Dr.w rfl rfl rfl rfl (q_indexAt se_60 rfl hxp rfl (by omega) rfl) ?_
            refine Dr.r rfl rfl rfl rfl (Sub.rfl' _) (q_loadA ac_34 rfl hbx (row_partN hrx 0 6 (by decide) rfl rfl)) ?_
            refine Dr.w rfl rfl rfl rfl (q_fieldAddr fo_39_5 rfl rfl) ?_
            refine Dr.r rfl rfl rfl rfl (Sub.rfl' _) (q_loadA ac_34 rfl (hS.ro 11 rfl _ _ h3) (rowN_row rfl)) ?_
            refine Dr.x rfl rfl rfl rfl (e_callF rfl rfl rfl ca_29 ((of_spec _ _ _ _ _ _ _).mono fun v116 τ116 h116 => ?_))
            obtain ⟨rfl, rfl⟩ := h116
            refine ⟨.inr (Sub.rfl' _), ?_⟩
            refine Dr.x rfl rfl rfl rfl (e_callF rfl rfl rfl ca_29 ((of_spec _ _ _ _ _ _ _).mono fun v119 τ119 h119 => ?_))
            obtain ⟨rfl, rfl⟩ := h119
            refine ⟨.inl rfl, ?_⟩
            refine Dr.x rfl rfl rfl rfl (e_callF rfl rfl rfl ca_28 ((kcmp_spec _ _ _ _ _).mono fun v120 τ120 h120 => ?_))
            obtain ⟨rfl, rfl⟩ := h120
            refine ⟨.inl rfl, ?_⟩
            refine Dr.w rfl rfl rfl rfl (q_ge rfl rfl) ?_
            refine Dr.x rfl rfl rfl rfl (e_callF rfl rfl rfl ca_17 ((mbreaks_spec _ _ _ _ _ _ _ _ _ _ _ _ _ _ _ hS _ _).mono fun v122 τ122 h122 => ?_))
            replace hS := h122
            refine ⟨.inl rfl, ?_⟩
            refine Dr.done ?_
            refine St.keep [108, 13, 12, 10, 83, 12, 10, 11, 73, 9, 8, 36, 35, 5, 34, 33, 4, 3, 0, 1] ?_
            show St _ _ _ [(108, _), (13, _), (12, _), (10, _), (83, _), (12, _), (10, _), (11, _), (73, _), (9, _), (8, _), (36, _), (35, _), (5, _), (34, _), (33, _), (4, _), (3, _), (0, _), (1, _)] _ _ _
            exact St.conv (SubL.list (by rfl)) (Sub.rfl' _) (hkh4 _ (by rw [hlb]; exact hS))
          · have hnil : s.all = [] := List.length_eq_zero_iff.1 (by have h0 := of_decide_eq_false hc4; omega)
            have hlb : lastBad s.all e.m = false := by rw [hnil]; rfl
            refine St.skip ?_
            exact St.conv (SubL.list (by rfl)) (Sub.rfl' _) (hkh4 _ (by rw [hlb]; exact hS))
        · intro τj hS
          show St _ _ _ [(108, _), (13, _), (12, _), (10, _), (83, _), (12, _), (10, _), (11, _), (73, _), (9, _), (8, _), (36, _), (35, _), (5, _), (34, _), (33, _), (4, _), (3, _), (0, _), (1, _)] _ _ _
          replace hbr := least_brk (lastBad s.all e.m) hbr (show (1 : Int) ≤ 3 by decide) (by decide)
          refine St.seq ?_
          refine St.seq ?_
          refine St.region rfl ?_
          refine Reg.q rfl rfl rfl (q_fieldAddr fo_39_5 rfl rfl) ?_
          refine Reg.q rfl rfl rfl (q_fieldAddr fo_34_4 rfl rfl) ?_
          refine Reg.q rfl rfl rfl (q_load1 ac_32 rfl (hS.ro 11 rfl _ _ h3) rfl) ?_
          refine Reg.q rfl rfl rfl (q_lenS rfl se_32 rfl) ?_
          refine Reg.q rfl rfl rfl (q_move rfl) ?_
          refine Reg.done ?_
          refine St.keep [108, 13, 12, 10, 83, 12, 10, 11, 73, 9, 8, 36, 35, 5, 34, 33, 4, 3, 0, 1, 125, 126, 127] ?_
          show St _ _ _ [(127, _), (126, _), (125, _), (108, _), (13, _), (12, _), (10, _), (83, _), (12, _), (10, _), (11, _), (73, _), (9, _), (8, _), (36, _), (35, _), (5, _), (34, _), (33, _), (4, _), (3, _), (0, _), (1, _)] _ _ _
          refine St.block ?_
          refine St.loopw (Y := Nat × Int) (fun y => [(127, .int .i64 (y.1 : Nat))]) [126, 125, 108, 13, 12, 10, 83, 11, 73, 9, 8, 36, 35, 5, 34, 33, 4, 3, 0, 1] (fun y τ => Stars (pt tb (.cells (monC sb eb mb sp M.stays.length sc lb nb y.2 M.len M.at_ M.rule) 53 (0, 0)) :: pt bk (.cells (mstC s a0 c0 a1 c1 cb) 65 (0, 0)) :: ownA 34 6 a0 s.p0.length c0 (s.p0.flatMap Msg.cells) :: ownA 34 6 a1 s.p1.length c1 (s.p1.flatMap Msg.cells) :: mapA encI cb cl :: mholeA bs M.stays k :: ownA 56 1 sp M.stays.length sc (bs.flatMap ptrC) :: rowsA 34 6 encSent Msg.cells sb M.sends :: mapA encWho eb (put sl (evWho e) (.bool true)) :: mapA encI lb lal :: mapA encI nb nal :: ro ρ8 :: rs) τ ∧ y.1 ≤ e.m.deps.length ∧ y.2 = least (fun q => (((dlvBad M e q || (q == 1 && (M.stayAt e).isNone)) || (q == 2 && e.new != xB.new)) || (q == 3 && lastBad s.all e.m)) || (q == 4 && depBM e.m s.all y.1))) (fun y => e.m.deps.length - y.1) ((0, _)) rfl (⟨hS, Nat.zero_le _, hbr.trans (least_congr fun q => by simp [depBM, dlvBad])⟩) ?_
          intro ⟨j, br⟩ τ ⟨hS, hj, hbr⟩ back1
          simp only [] at hS hj hbr
          show St _ _ _ [(127, _), (126, _), (125, _), (108, _), (13, _), (12, _), (10, _), (83, _), (12, _), (10, _), (11, _), (73, _), (9, _), (8, _), (36, _), (35, _), (5, _), (34, _), (33, _), (4, _), (3, _), (0, _), (1, _)] _ _ _
          refine St.seq ?_
          refine St.region rfl ?_
          refine Reg.q rfl rfl rfl (q_lt rfl rfl) ?_
          refine Reg.done ?_
          refine St.keep [127, 126, 125, 108, 13, 12, 10, 83, 12, 10, 11, 73, 9, 8, 36, 35, 5, 34, 33, 4, 3, 0, 1, 128] ?_
          show St _ _ _ [(128, _), (127, _), (126, _), (125, _), (108, _), (13, _), (12, _), (10, _), (83, _), (12, _), (10, _), (11, _), (73, _), (9, _), (8, _), (36, _), (35, _), (5, _), (34, _), (33, _), (4, _), (3, _), (0, _), (1, _)] _ _ _
          refine St.seq ?_
          refine St.cond rfl (fun hc5 => ?_) (fun hc5 => ?_)
          · simp at hc5
            obtain ⟨dn, hdn⟩ : ∃ n, e.m.deps[j]? = some n := ⟨_, List.getElem?_eq_getElem hc5⟩
            obtain ⟨bd, od, csd, Td, fd, hdp, hbd, hld, hrdd⟩ := Rd.row u32_len (by decide) hok.1.1 hdn
            replace hbd := hs348 _ _ hbd
            refine St.skip ?_
            refine St.seq ?_
            refine St.block ?_
            refine St.seq ?_
            refine St.region rfl ?_
            refine Reg.q rfl rfl rfl (q_move rfl) ?_
            refine Reg.q rfl rfl rfl (q_indexAt se_32 rfl hdp rfl (by omega) rfl) ?_
            refine Reg.q rfl rfl rfl (q_load1 ac_31 rfl (hS.ro 11 rfl _ _ hbd) (row_cell hrdd 0 rfl)) ?_
            refine Reg.q rfl rfl rfl (q_assign rfl) ?_
            refine Reg.q rfl rfl rfl (q_assign rfl) ?_
            refine Reg.done ?_
            refine St.keep [128, 127, 126, 125, 108, 13, 12, 10, 83, 12, 10, 11, 73, 9, 8, 36, 35, 5, 34, 33, 4, 3, 0, 1, 14, 15] ?_
            show St _ _ _ [(15, _), (14, _), (128, _), (127, _), (126, _), (125, _), (108, _), (13, _), (12, _), (10, _), (83, _), (12, _), (10, _), (11, _), (73, _), (9, _), (8, _), (36, _), (35, _), (5, _), (34, _), (33, _), (4, _), (3, _), (0, _), (1, _)] _ _ _
            refine St.region rfl ?_
            refine Reg.q rfl rfl rfl (q_move rfl) ?_
            refine Reg.q rfl rfl rfl (q_move rfl) ?_
            refine Reg.q rfl rfl rfl (q_conv ti_31_3 rfl rfl) ?_
            refine Reg.q rfl rfl rfl (q_move rfl) ?_
            refine Reg.q rfl rfl rfl (q_nil rfl) ?_
            refine Reg.q rfl rfl rfl (q_fieldAddr fo_65_4 rfl rfl) ?_
            refine Reg.q rfl rfl rfl (q_load1 ac_62 rfl (hS.pt 1 rfl) rfl) ?_
            refine Reg.q rfl rfl rfl (q_move rfl) ?_
            refine Reg.q rfl rfl rfl (q_lookup Try.underlying62 key_3 zv_3 rfl rfl (hS.map 4 rfl) (hcn j)) ?_
            refine Reg.q rfl rfl rfl (q_gt rfl rfl) ?_
            refine Reg.x rfl rfl rfl (e_callF rfl rfl rfl ca_17 ((mbreaks_spec _ _ _ _ _ _ _ _ _ _ _ _ _ _ _ hS _ _).mono fun v142 τ142 h142 => ?_))
            replace hS := h142
            replace hbr := least_brk (decide (IntKind.i64.wrap dn > cntM s.all j)) hbr (show (1 : Int) ≤ 4 by decide) (by decide)
            refine Reg.done ?_
            refine St.keep [15, 14, 128, 127, 126, 125, 108, 13, 12, 10, 83, 12, 10, 11, 73, 9, 8, 36, 35, 5, 34, 33, 4, 3, 0, 1] ?_
            show St _ _ _ [(15, _), (14, _), (128, _), (127, _), (126, _), (125, _), (108, _), (13, _), (12, _), (10, _), (83, _), (12, _), (10, _), (11, _), (73, _), (9, _), (8, _), (36, _), (35, _), (5, _), (34, _), (33, _), (4, _), (3, _), (0, _), (1, _)] _ _ _
            refine St.inBlock ?_
            refine St.region rfl ?_
            refine Reg.q rfl rfl rfl (q_add rfl rfl (inc64 (by omega))) ?_
            refine Reg.q rfl rfl rfl (q_move rfl) ?_
            refine Reg.done ?_
            refine St.keep [15, 14, 128, 127, 126, 125, 108, 13, 12, 10, 83, 12, 10, 11, 73, 9, 8, 36, 35, 5, 34, 33, 4, 3, 0, 1] ?_
            show St _ _ _ [(127, _), (15, _), (14, _), (128, _), (127, _), (126, _), (125, _), (108, _), (13, _), (12, _), (10, _), (83, _), (12, _), (10, _), (11, _), (73, _), (9, _), (8, _), (36, _), (35, _), (5, _), (34, _), (33, _), (4, _), (3, _), (0, _), (1, _)] _ _ _
            refine St.conv (SubL.list (by rfl)) (Sub.rfl' _) (back1 ((j + 1, brkI br 4 (decide (IntKind.i64.wrap dn > cntM s.all j)))) _ ?_ ?_)
            · exact ⟨hS, by simp only []; omega, hbr.trans (least_congr fun q => by simp only []; rw [depBM_succ hdn]; cases (q == 4) <;> simp [Bool.or_assoc])⟩
            · simp only []; omega
          · simp at hc5
            obtain rfl : j = e.m.deps.length := by omega
            have hcb := cntM_bd s.all e.m.frm
            refine St.exit rfl ?_
            refine St.seq ?_
            refine St.draw0 [9] [(0, .w), (1, .w), (2, .w), (3, .r), (4, .w), (5, .w), (6, .r), (7, .r), (8, .w), (9, .x)] mixed (by kernel_rfl) rfl ?_
            refine Dr.w rfl rfl rfl rfl (q_move rfl) ?_
            refine Dr.w rfl rfl rfl rfl (q_nil rfl) ?_
            refine Dr.w rfl rfl rfl rfl (q_fieldAddr fo_65_4 rfl rfl) ?_
            refine Dr.r rfl rfl rfl rfl (Sub.rfl' _) (q_load1 ac_62 rfl (hS.pt 1 rfl) rfl) ?_
            refine Dr.w rfl rfl rfl rfl (q_fieldAddr fo_39_5 rfl rfl) ?_
            refine Dr.w rfl rfl rfl rfl (q_fieldAddr fo_34_0 rfl rfl) ?_
            refine Dr.r rfl rfl rfl rfl (Sub.rfl' _) (q_load1 ac_3 rfl (hS.ro 11 rfl _ _ h3) rfl) ?_
            refine Dr.r rfl rfl rfl rfl (Sub.rfl' _) (q_lookup Try.underlying62 key_3 zv_3 rfl rfl (hS.map 4 rfl) (hcn e.m.frm)) ?_
            refine Dr.w rfl rfl rfl rfl (q_add rfl rfl (wrap64 (by omega))) ?_
            refine Dr.no rfl rfl rfl (e_mapUpdate Try.underlying62 key_3 rfl rfl rfl (hS.map 4 rfl) (fun τu27_9 hmu27_9 huu27_9 => ⟨.inl rfl, ?_⟩))
            replace hS : Stars (_ :: _ :: _ :: _ :: _ :: _ :: _ :: _ :: _ :: _ :: _ :: _ :: rs) _ := (hS.top 4 rfl).mapU huu27_9 hmu27_9
            refine Dr.done ?_
            refine St.keep [128, 127, 126, 125, 108, 13, 12, 10, 83, 12, 10, 11, 73, 9, 8, 36, 35, 5, 34, 33, 4, 3, 0, 1] ?_
            show St _ _ _ [(128, _), (127, _), (126, _), (125, _), (108, _), (13, _), (12, _), (10, _), (83, _), (12, _), (10, _), (11, _), (73, _), (9, _), (8, _), (36, _), (35, _), (5, _), (34, _), (33, _), (4, _), (3, _), (0, _), (1, _)] _ _ _
            refine St.seq ?_
            refine St.draw0 [11, 15] [(0, .w), (1, .w), (2, .w), (3, .w), (4, .w), (5, .w), (6, .w), (7, .r), (8, .w), (9, .r), (12, .w), (13, .w), (10, .x), (11, .x), (14, .w), (15, .x)] mixed (by kernel_rfl) rfl ?_
            refine Dr.w rfl rfl rfl rfl (q_move rfl) ?_
            refine Dr.w rfl rfl rfl rfl (q_move rfl) ?_
            refine Dr.w rfl rfl rfl rfl (q_move rfl) ?_
            refine Dr.w rfl rfl rfl rfl (q_move rfl) ?_
            refine Dr.w rfl rfl rfl rfl (q_nil rfl) ?_
            refine Dr.w rfl rfl rfl rfl (q_fieldAddr fo_65_3 rfl rfl) ?_
            refine Dr.w rfl rfl rfl rfl (q_indexAddrA ae_61 rfl rfl (by decide) rfl) ?_
            refine Dr.r rfl rfl rfl rfl (Sub.rfl' _) (q_load1 ac_60 rfl (hS.pt 2 rfl) rfl) ?_
            refine Dr.w rfl rfl rfl rfl (q_fieldAddr fo_39_5 rfl rfl) ?_
            refine Dr.r rfl rfl rfl rfl (Sub.rfl' _) (q_loadA ac_34 rfl (hS.ro 11 rfl _ _ h3) (rowN_row rfl)) ?_
            refine Dr.w rfl rfl rfl rfl (q_nil rfl) ?_
            refine Dr.w rfl rfl rfl rfl (q_fieldAddr fo_65_3 rfl rfl) ?_
            refine Dr.x rfl rfl rfl rfl (e_buildSlice so_60 zo_34 zr_34_1 rfl rfl rfl (fillN_fill rfl) (fun b163 τ163 hb163 => ⟨.inr hb163.sub, ?_⟩))
            replace hS : Stars (_ :: _ :: _ :: _ :: _ :: _ :: _ :: _ :: _ :: _ :: _ :: _ :: _ :: rs) _ := hS.fresh hb163
            refine Dr.x rfl rfl rfl rfl (e_append rfl Try.underlying60 Try.underlying60 sb_34 zo_34 rfl rfl rfl (hS.own 5 rfl) (Rd.lit (hS.pt 0 rfl) rfl) (.inl (by omega)) (allFlat_mem rfl) (by omega) (by omega) (fun b164 o164 c164 τ164 hf164 hu164 ho164 => ⟨.inl rfl, ?_⟩))
            replace hS : Stars (_ :: _ :: _ :: _ :: _ :: _ :: _ :: _ :: _ :: _ :: _ :: _ :: _ :: rs) _ := (hS.top 5 rfl).ownU hf164 hu164 ho164
            refine Dr.w rfl rfl rfl rfl (q_indexAddrA ae_61 rfl rfl (by decide) rfl) ?_
            refine Dr.no rfl rfl rfl (e_store rfl rfl sz_60 rfl (hS.pt 4 rfl) (Nat.le_of_ble_eq_true rfl) rfl (storeN_row rfl) (fun τs28_15 hs28_15 hu28_15 => ⟨.inl rfl, ?_⟩))
            replace hS : Stars (_ :: _ :: _ :: _ :: _ :: _ :: _ :: _ :: _ :: _ :: _ :: _ :: _ :: rs) _ := (hS.top 4 rfl).ptU hu28_15 hs28_15
            refine Dr.done ?_
            refine St.keep [128, 127, 126, 125, 108, 13, 12, 10, 83, 12, 10, 11, 73, 9, 8, 36, 35, 5, 34, 33, 4, 3, 0, 1] ?_
            show St _ _ _ [(128, _), (127, _), (126, _), (125, _), (108, _), (13, _), (12, _), (10, _), (83, _), (12, _), (10, _), (11, _), (73, _), (9, _), (8, _), (36, _), (35, _), (5, _), (34, _), (33, _), (4, _), (3, _), (0, _), (1, _)] _ _ _
            have hgot : s.got e.m = ({ s with p1 := s.p1 ++ [e.m] } : MSt) := by unfold MSt.got; rw [if_pos hc3]
            have e1 : (s.p1 ++ [e.m]).length = s.p1.length + 1 := by simp
            have e2 : (s.p1 ++ [e.m]).flatMap Msg.cells = s.p1.flatMap Msg.cells ++ e.m.cells := by simp
            replace hS : Stars (_ :: _ :: _ :: _ :: _ :: _ :: _ :: _ :: _ :: _ :: _ :: _ :: _ :: rs) _ := hS.top 2 rfl
            replace hS := hS.drop
            replace hS : Stars (_ :: _ :: _ :: _ :: _ :: _ :: _ :: _ :: _ :: _ :: _ :: _ :: rs) _ := hS.top 1 rfl
            replace hS : Stars (ownA 34 6 (some ⟨b164, o164, none⟩) (s.p1 ++ [e.m]).length c164 ((s.p1 ++ [e.m]).flatMap Msg.cells) :: _) _ := hS.imp fun h hx => by rw [e1, e2]; exact hx
            replace hS : Stars (_ :: _ :: _ :: _ :: _ :: _ :: _ :: _ :: _ :: _ :: _ :: _ :: rs) _ := hS.top 1 rfl
            replace hS : Stars (pt bk (.cells (mstC ({ s with p1 := s.p1 ++ [e.m] } : MSt) a0 c0 (some ⟨b164, o164, none⟩) c164 cb) 65 (0, 0)) :: _) _ := hS.imp fun h hx => by simp only [mstC, e1]; exact hx
            replace hS : Stars (_ :: _ :: _ :: _ :: _ :: _ :: _ :: _ :: _ :: _ :: _ :: _ :: rs) _ := hS.top 5 rfl
            replace hS : Stars (_ :: _ :: _ :: _ :: _ :: _ :: _ :: _ :: _ :: _ :: _ :: _ :: rs) _ := hS.top 3 rfl
            replace hS : Stars (_ :: _ :: _ :: _ :: _ :: _ :: _ :: _ :: _ :: _ :: _ :: _ :: rs) _ := hS.top 3 rfl
            replace hS : Stars (_ :: _ :: _ :: _ :: _ :: _ :: _ :: _ :: _ :: _ :: _ :: _ :: rs) _ := hS.top 5 rfl
            replace hS : Stars (_ :: _ :: _ :: _ :: _ :: _ :: _ :: _ :: _ :: _ :: _ :: _ :: rs) _ := hS.top 4 rfl
            have hcn2 : CntM (put cl e.m.frm (.int .i64 (cntM s.all e.m.frm + 1))) ({ s with p1 := s.p1 ++ [e.m] } : MSt).all := hcn.put fun q => by simp only [MSt.all, cntM_app]; omega
            replace hS := msts_close (s := ({ s with p1 := s.p1 ++ [e.m] } : MSt)) hcn2 hS hbk hklt
            rw [← hgot] at hS
            replace hS : Stars (_ :: _ :: _ :: _ :: _ :: _ :: _ :: _ :: rs) _ := hS.top 7 rfl
            replace hS : Stars (_ :: _ :: _ :: _ :: _ :: _ :: _ :: _ :: rs) _ := hS.top 1 rfl
            replace hS : Stars (_ :: _ :: _ :: _ :: _ :: _ :: _ :: _ :: rs) _ := hS.top 3 rfl
            obtain ⟨ρL, hρ, hS'⟩ := (hS.fold 3).fix
            replace hS := hS'
            replace hS : Stars (_ :: _ :: _ :: _ :: _ :: _ :: rs) _ := hS.top 5 rfl
            replace hS : Stars (_ :: _ :: _ :: _ :: _ :: _ :: rs) _ := hS.top 5 rfl
            replace hS : Stars (_ :: _ :: _ :: _ :: _ :: _ :: rs) _ := hS.top 5 rfl
            replace hS : Stars (_ :: _ :: _ :: _ :: _ :: _ :: rs) _ := hS.top 5 rfl
            replace hS : Stars (_ :: _ :: _ :: _ :: _ :: _ :: rs) _ := hS.top 5 rfl
            replace hρ : Stars [_, _, _] ρL := hρ
            have hsL := hρ.ro 2 rfl
            have hrdL := (hρ.own 0 rfl).rd
            have hgc : (s.got e.m).conf = s.conf := by rw [hgot]
            have hks : (M.stays.set k (s.got e.m))[k]? = some (s.got e.m) := by rw [List.getElem?_set]; simp [hklt]
            obtain ⟨as0, cs0, as1, cs1, csb, csl, hsts, _, _, _, _⟩ := msts_at hρ (k := 1) rfl hbk hks
            have hwfL : ∀ x ∈ M.stays.set k (s.got e.m), x.wf ρ 39 100000 := fun x hx => by
              rcases List.mem_or_eq_of_mem_set hx with h | h
              · exact (hM.wf x h).up (Sub.rfl' _) (by omega)
              · subst h; exact ((hM.wf s (List.mem_of_getElem? hs)).got hok.1).up (Sub.rfl' _) (by omega)
            refine St.seq ?_
            refine St.region rfl ?_
            refine Reg.q rfl rfl rfl (q_move rfl) ?_
            refine Reg.q rfl rfl rfl (q_nil rfl) ?_
            refine Reg.q rfl rfl rfl (q_fieldAddr fo_53_0 rfl rfl) ?_
            refine Reg.q rfl rfl rfl (q_fieldAddr fo_49_3 rfl rfl) ?_
            refine Reg.q rfl rfl rfl (q_load1 ac_47 rfl (hS.pt 0 rfl) rfl) ?_
            refine Reg.q rfl rfl rfl (q_lenS rfl se_47 rfl) ?_
            refine Reg.q rfl rfl rfl (q_move rfl) ?_
            refine Reg.done ?_
            refine St.keep [128, 127, 126, 125, 108, 13, 12, 10, 83, 12, 10, 11, 73, 9, 8, 36, 35, 5, 34, 33, 4, 3, 0, 1, 172, 173, 174] ?_
            show St _ _ _ [(174, _), (173, _), (172, _), (128, _), (127, _), (126, _), (125, _), (108, _), (13, _), (12, _), (10, _), (83, _), (12, _), (10, _), (11, _), (73, _), (9, _), (8, _), (36, _), (35, _), (5, _), (34, _), (33, _), (4, _), (3, _), (0, _), (1, _)] _ _ _
            refine St.block ?_
            refine St.loopw (Y := Nat × Int) (fun y => [(174, .int .i64 (y.1 : Nat))]) [173, 172, 128, 127, 126, 125, 108, 13, 12, 10, 83, 11, 73, 9, 8, 36, 35, 5, 34, 33, 4, 3, 0, 1] (fun y τ => Stars (pt tb (.cells (monC sb eb mb sp M.stays.length sc lb nb y.2 M.len M.at_ M.rule) 53 (0, 0)) :: rowsA 34 6 encSent Msg.cells sb M.sends :: mapA encWho eb (put sl (evWho e) (.bool true)) :: mapA encI lb lal :: mapA encI nb nal :: ro ρL :: rs) τ ∧ y.1 ≤ M.stays.length ∧ y.2 = least (fun q => ((((dlvBad M e q || (q == 1 && (M.stayAt e).isNone)) || (q == 2 && e.new != xB.new)) || (q == 3 && lastBad s.all e.m)) || (q == 4 && depBM e.m s.all e.m.deps.length)) || (q == 6 && ((M.stays.set k (s.got e.m)).take y.1).any fun b => (b.conf == s.conf && b.went) && owesM xB.mem b e.m))) (fun y => M.stays.length - y.1) ((0, br)) rfl (⟨hS, Nat.zero_le _, hbr.trans (least_congr fun q => by simp)⟩) ?_
            intro ⟨j, br⟩ τ ⟨hS, hj, hbr⟩ back2
            simp only [] at hS hj hbr
            show St _ _ _ [(174, _), (173, _), (172, _), (128, _), (127, _), (126, _), (125, _), (108, _), (13, _), (12, _), (10, _), (83, _), (12, _), (10, _), (11, _), (73, _), (9, _), (8, _), (36, _), (35, _), (5, _), (34, _), (33, _), (4, _), (3, _), (0, _), (1, _)] _ _ _
            refine St.seq ?_
            refine St.region rfl ?_
            refine Reg.q rfl rfl rfl (q_lt rfl rfl) ?_
            refine Reg.done ?_
            refine St.keep [174, 173, 172, 128, 127, 126, 125, 108, 13, 12, 10, 83, 12, 10, 11, 73, 9, 8, 36, 35, 5, 34, 33, 4, 3, 0, 1, 175] ?_
            show St _ _ _ [(175, _), (174, _), (173, _), (172, _), (128, _), (127, _), (126, _), (125, _), (108, _), (13, _), (12, _), (10, _), (83, _), (12, _), (10, _), (11, _), (73, _), (9, _), (8, _), (36, _), (35, _), (5, _), (34, _), (33, _), (4, _), (3, _), (0, _), (1, _)] _ _ _
            refine St.seq ?_
            refine St.cond rfl (fun hc6 => ?_) (fun hc6 => ?_)
            · simp at hc6
              obtain ⟨b, hb⟩ : ∃ b, (M.stays.set k (s.got e.m))[j]? = some b := ⟨_, List.getElem?_eq_getElem (by rw [List.length_set]; exact hc6)⟩
              obtain ⟨bb, hbb⟩ : ∃ bb, bs[j]? = some bb := ⟨_, List.getElem?_eq_getElem (by rw [hM.len]; exact hc6)⟩
              have hwb := hwfL b (List.mem_of_getElem? hb)
              have hwbf := hwb.few
              have hat := any_take hb (fun b => (b.conf == s.conf && b.went) && owesM xB.mem b e.m)
              obtain ⟨b9, o9, cs9, T9, f9, hsp9, hb9, hl9, hr9⟩ := Rd.row ptrC_len (by decide) hrdL hbb
              obtain ⟨ab0, cb0, ab1, cb1, cbb, clb, hstb, hrb0, hrb1, _, _⟩ := msts_at hρ (k := 1) rfl hbb hb
              have hsr := hs348.trans hsL
              refine St.skip ?_
              refine St.seq ?_
              refine St.block ?_
              refine St.seq ?_
              refine St.region rfl ?_
              refine Reg.q rfl rfl rfl (q_indexAt se_47 rfl hsp9 rfl (by omega) rfl) ?_
              refine Reg.q rfl rfl rfl (q_load1 ac_56 rfl (hS.ro 5 rfl _ _ hb9) (row_cell hr9 0 rfl)) ?_
              refine Reg.q rfl rfl rfl (q_assign rfl) ?_
              refine Reg.done ?_
              refine St.keep [175, 174, 173, 172, 128, 127, 126, 125, 108, 13, 12, 10, 83, 12, 10, 11, 73, 9, 8, 36, 35, 5, 34, 33, 4, 3, 0, 1, 17] ?_
              show St _ _ _ [(17, _), (175, _), (174, _), (173, _), (172, _), (128, _), (127, _), (126, _), (125, _), (108, _), (13, _), (12, _), (10, _), (83, _), (12, _), (10, _), (11, _), (73, _), (9, _), (8, _), (36, _), (35, _), (5, _), (34, _), (33, _), (4, _), (3, _), (0, _), (1, _)] _ _ _
              refine St.seq ?_
              refine St.draw0 [] [(0, .w), (1, .w), (2, .w), (3, .r), (4, .w), (5, .w), (6, .w), (7, .r), (8, .w), (9, .w), (10, .w), (11, .w), (12, .w), (13, .r), (14, .w)] mixed (by kernel_rfl) rfl ?_
              refine Dr.w rfl rfl rfl rfl (q_move rfl) ?_
              refine Dr.w rfl rfl rfl rfl (q_nil rfl) ?_
              refine Dr.w rfl rfl rfl rfl (q_fieldAddr fo_65_1 rfl rfl) ?_
              refine Dr.r rfl rfl rfl rfl (Sub.rfl' _) (q_loadA ac_30 rfl (hS.ro 5 rfl _ _ hstb) (rowN_row rfl)) ?_
              refine Dr.w rfl rfl rfl rfl (q_move rfl) ?_
              refine Dr.w rfl rfl rfl rfl (q_nil rfl) ?_
              refine Dr.w rfl rfl rfl rfl (q_fieldAddr fo_65_1 rfl rfl) ?_
              refine Dr.r rfl rfl rfl rfl (Sub.rfl' _) (q_loadA ac_30 rfl (hS.ro 5 rfl _ _ hsts) (rowN_row rfl)) ?_
              refine Dr.w rfl rfl rfl rfl (q_aeq rfl rfl eg_30 (eq_30 b.conf (s.got e.m).conf)) ?_
              refine Dr.w rfl rfl rfl rfl (q_move rfl) ?_
              refine Dr.joinv 192 (.bool (b.conf == s.conf && b.went)) 5 [17, 175, 174, 173, 172, 128, 127, 126, 125, 108, 13, 12, 10, 83, 12, 10, 11, 73, 9, 8, 36, 35, 5, 34, 33, 4, 3, 0, 1, 178, 179, 180, 181, 182, 183, 184, 185, 186] (fun hk32_14 => ?_) ?_
              · skip
                refine Dr.split (d := 187) rfl (fun hg187 => ?_) (fun hg187 => ?_)
                · rw [hgc] at hg187
                  refine Dr.w rfl rfl rfl rfl (q_move rfl) ?_
                  refine Dr.w rfl rfl rfl rfl (q_nil rfl) ?_
                  refine Dr.w rfl rfl rfl rfl (q_fieldAddr fo_65_6 rfl rfl) ?_
                  refine Dr.r rfl rfl rfl rfl (Sub.rfl' _) (q_load1 ac_4 rfl (hS.ro 5 rfl _ _ hstb) rfl) ?_
                  refine Dr.w rfl rfl rfl rfl (q_pickT rfl rfl) ?_
                  exact Dr.meet 6 [17, 175, 174, 173, 172, 128, 127, 126, 125, 108, 13, 12, 10, 83, 12, 10, 11, 73, 9, 8, 36, 35, 5, 34, 33, 4, 3, 0, 1, 178, 179, 180, 181, 182, 183, 184, 185, 186] hk32_14 rfl (by simp only [hgc, hg187, Bool.true_and, Bool.false_and]) rfl rfl
                · rw [hgc] at hg187
                  refine Dr.skip rfl rfl rfl rfl ?_
                  refine Dr.skip rfl rfl rfl rfl ?_
                  refine Dr.skip rfl rfl rfl rfl ?_
                  refine Dr.skip rfl rfl rfl rfl ?_
                  refine Dr.w rfl rfl rfl rfl (q_pickF rfl rfl) ?_
                  exact Dr.meet 6 [17, 175, 174, 173, 172, 128, 127, 126, 125, 108, 13, 12, 10, 83, 12, 10, 11, 73, 9, 8, 36, 35, 5, 34, 33, 4, 3, 0, 1, 178, 179, 180, 181, 182, 183, 184, 185, 186] hk32_14 rfl (by simp only [hgc, hg187, Bool.true_and, Bool.false_and]) rfl rfl
              · skip
                refine Dr.done ?_
                refine St.keep [17, 175, 174, 173, 172, 128, 127, 126, 125, 108, 13, 12, 10, 83, 12, 10, 11, 73, 9, 8, 36, 35, 5, 34, 33, 4, 3, 0, 1, 192] ?_
                show St _ _ _ [(192, _), (17, _), (175, _), (174, _), (173, _), (172, _), (128, _), (127, _), (126, _), (125, _), (108, _), (13, _), (12, _), (10, _), (83, _), (12, _), (10, _), (11, _), (73, _), (9, _), (8, _), (36, _), (35, _), (5, _), (34, _), (33, _), (4, _), (3, _), (0, _), (1, _)] _ _ _
                refine St.cond rfl (fun hc7 => ?_) (fun hc7 => ?_)
                · skip
                  refine St.region rfl ?_
                  refine Reg.q rfl rfl rfl (q_move rfl) ?_
                  refine Reg.q rfl rfl rfl (q_move rfl) ?_
                  refine Reg.q rfl rfl rfl (q_move rfl) ?_
                  refine Reg.q rfl rfl rfl (q_fieldAddr fo_39_5 rfl rfl) ?_
                  refine Reg.q rfl rfl rfl (q_loadA ac_34 rfl (hS.ro 5 rfl _ _ (hsL _ _ h3)) (rowN_row rfl)) ?_
                  refine Reg.x rfl rfl rfl (e_buildSlice so_60 zo_34 zr_34_1 rfl rfl rfl (fillN_fill rfl) (fun b198 τ198 hb198 => ?_))
                  replace hS : Stars (_ :: _ :: _ :: _ :: _ :: _ :: _ :: rs) _ := hS.fresh hb198
                  refine Reg.q rfl rfl rfl (q_move rfl) ?_
                  replace hS : Stars (_ :: _ :: _ :: _ :: _ :: _ :: _ :: rs) _ := hS.top 6 rfl
                  replace hS : Stars (_ :: _ :: _ :: _ :: _ :: _ :: _ :: rs) _ := hS.top 1 rfl
                  obtain ⟨ρ9, hs9, h9, hS'⟩ := hS.roNew
                  replace hS := hS'
                  replace hS : Stars (_ :: _ :: _ :: _ :: _ :: _ :: rs) _ := hS.top 1 rfl
                  refine Reg.x rfl rfl rfl (e_callF rfl rfl rfl ca_30 ((mowes_spec _ ρ9 _ _ _ _ _ _ _ _ _ _ _ _ _ br _ hbr hS bb b _ _ _ _ _ (hs9 _ _ hstb) (Rd.up hrb0 hs9) (Rd.up hrb1 hs9) hwb.few (fun m hm => (hwb.ok0 m hm).up (hsr.trans hs9)) (fun m hm => (hwb.ok1 m hm).up (hsr.trans hs9)) _ [e.m] _ _ (Rd.lit (m := 6) (k := 1) h9 rfl) (fun m hm => by simp at hm; subst hm; exact hok.1.up (hsr.trans hs9)) (by simp) _).mono fun v200 τ200 h200 => ?_))
                  obtain ⟨br3, hS, hbr3⟩ := h200
                  replace hS : Stars (_ :: _ :: _ :: _ :: _ :: _ :: rs) _ := hS.top 1 rfl
                  replace hS : Stars (ro ρL :: _) _ := hS.imp fun h hx => hs9.trans hx
                  replace hS : Stars (_ :: _ :: _ :: _ :: _ :: _ :: rs) _ := hS.top 5 rfl
                  replace hS : Stars (_ :: _ :: _ :: _ :: _ :: _ :: rs) _ := hS.top 5 rfl
                  replace hS : Stars (_ :: _ :: _ :: _ :: _ :: _ :: rs) _ := hS.top 5 rfl
                  replace hS : Stars (_ :: _ :: _ :: _ :: _ :: _ :: rs) _ := hS.top 5 rfl
                  replace hS : Stars (_ :: _ :: _ :: _ :: _ :: _ :: rs) _ := hS.top 5 rfl
                  refine Reg.done ?_
                  refine St.keep [192, 17, 175, 174, 173, 172, 128, 127, 126, 125, 108, 13, 12, 10, 83, 12, 10, 11, 73, 9, 8, 36, 35, 5, 34, 33, 4, 3, 0, 1] ?_
                  show St _ _ _ [(192, _), (17, _), (175, _), (174, _), (173, _), (172, _), (128, _), (127, _), (126, _), (125, _), (108, _), (13, _), (12, _), (10, _), (83, _), (12, _), (10, _), (11, _), (73, _), (9, _), (8, _), (36, _), (35, _), (5, _), (34, _), (33, _), (4, _), (3, _), (0, _), (1, _)] _ _ _
                  refine St.inBlock ?_
                  refine St.region rfl ?_
                  refine Reg.q rfl rfl rfl (q_add rfl rfl (inc64 (by omega))) ?_
                  refine Reg.q rfl rfl rfl (q_move rfl) ?_
                  refine Reg.done ?_
                  refine St.keep [192, 17, 175, 174, 173, 172, 128, 127, 126, 125, 108, 13, 12, 10, 83, 12, 10, 11, 73, 9, 8, 36, 35, 5, 34, 33, 4, 3, 0, 1] ?_
                  show St _ _ _ [(174, _), (192, _), (17, _), (175, _), (174, _), (173, _), (172, _), (128, _), (127, _), (126, _), (125, _), (108, _), (13, _), (12, _), (10, _), (83, _), (12, _), (10, _), (11, _), (73, _), (9, _), (8, _), (36, _), (35, _), (5, _), (34, _), (33, _), (4, _), (3, _), (0, _), (1, _)] _ _ _
                  refine St.conv (SubL.list (by rfl)) (Sub.rfl' _) (back2 ((j + 1, br3)) _ ?_ ?_)
                  · exact ⟨hS, by simp only []; omega, hbr3.trans (least_congr fun q => by simp only []; rw [hat, hc7]; cases (q == 6) <;> simp [Bool.or_assoc])⟩
                  · simp only []; omega
                · skip
                  refine St.skip ?_
                  refine St.inBlock ?_
                  refine St.region rfl ?_
                  refine Reg.q rfl rfl rfl (q_add rfl rfl (inc64 (by omega))) ?_
                  refine Reg.q rfl rfl rfl (q_move rfl) ?_
                  refine Reg.done ?_
                  refine St.keep [192, 17, 175, 174, 173, 172, 128, 127, 126, 125, 108, 13, 12, 10, 83, 12, 10, 11, 73, 9, 8, 36, 35, 5, 34, 33, 4, 3, 0, 1] ?_
                  show St _ _ _ [(174, _), (192, _), (17, _), (175, _), (174, _), (173, _), (172, _), (128, _), (127, _), (126, _), (125, _), (108, _), (13, _), (12, _), (10, _), (83, _), (12, _), (10, _), (11, _), (73, _), (9, _), (8, _), (36, _), (35, _), (5, _), (34, _), (33, _), (4, _), (3, _), (0, _), (1, _)] _ _ _
                  refine St.conv (SubL.list (by rfl)) (Sub.rfl' _) (back2 ((j + 1, br)) _ ?_ ?_)
                  · exact ⟨hS, by simp only []; omega, hbr.trans (least_congr fun q => by simp only []; rw [hat, hc7]; simp)⟩
                  · simp only []; omega
            · simp at hc6
              obtain rfl : j = M.stays.length := by omega
              have htl : (M.stays.set k (s.got e.m)).take M.stays.length = M.stays.set k (s.got e.m) := List.take_of_length_le (by rw [List.length_set]; exact Nat.le_refl _)
              rw [htl] at hbr
              refine St.exit rfl ?_
              refine St.fin Try.func15 .nil (Sub.rfl' _) ?_
              replace hS : Stars (_ :: _ :: _ :: _ :: _ :: _ :: rs) _ := hS.top 5 rfl
              replace hS : Stars (Stars [_, _, _] :: _) _ := hS.imp fun h hx => hρ.sub hx
              replace hS := hS.flat
              replace hS : Stars (_ :: _ :: _ :: _ :: _ :: _ :: _ :: _ :: rs) _ := hS.top 2 rfl
              replace hS : Stars (ro ρ :: _) _ := hS.imp fun h hx => hs348.trans hx
              replace hS : Stars (_ :: _ :: _ :: _ :: _ :: _ :: _ :: _ :: rs) _ := hS.top 2 rfl
              replace hS : Stars (_ :: _ :: _ :: _ :: _ :: _ :: _ :: _ :: rs) _ := hS.top 2 rfl
              replace hS : Stars (_ :: _ :: _ :: _ :: _ :: _ :: _ :: _ :: rs) _ := hS.top 7 rfl
              replace hS : Stars (_ :: _ :: _ :: _ :: _ :: _ :: _ :: _ :: rs) _ := hS.top 7 rfl
              replace hS : Stars (_ :: _ :: _ :: _ :: _ :: _ :: _ :: _ :: rs) _ := hS.top 7 rfl
              replace hS : Stars (_ :: _ :: _ :: _ :: _ :: _ :: _ :: _ :: rs) _ := hS.top 7 rfl
              replace hS : Stars (_ :: _ :: _ :: _ :: _ :: _ :: _ :: _ :: rs) _ := hS.top 7 rfl
              obtain ⟨m1, m2⟩ := mdeliver_some hse
              obtain ⟨r1, r2, r3, r4, r5, r6, r7, r8⟩ := mdeliver_rest M e
              refine ⟨_, ?_, hbr.trans (least_congr fun q => ?_), hM.deliver e hok.1⟩
              · rw [m1, r1]; exact hS
              · rw [m2, hse]; simp only [MSt.told, hxB, Option.isSome_some, Option.isSome_none, if_true, Bool.false_eq_true, if_false, transMem, transNew, Option.isNone_some, Bool.and_false, Bool.or_false]
      · have hxN : s.trans = none := by cases h : s.trans with | none => rfl | some r => rw [h] at hc3; cases hc3
        refine St.skip ?_
        refine St.seq ?_
        refine St.region rfl ?_
        refine Reg.q rfl rfl rfl (q_move rfl) ?_
        refine Reg.q rfl rfl rfl (q_fieldAddr fo_39_3 rfl rfl) ?_
        refine Reg.q rfl rfl rfl (q_loadA ac_30 rfl (hS.ro 9 rfl _ _ h3) (rowN_row rfl)) ?_
        refine Reg.q rfl rfl rfl (q_loadA ac_30 rfl (hS.pt 0 rfl) (rowN_row rfl)) ?_
        refine Reg.q rfl rfl rfl (q_ane rfl rfl eg_30 (eq_30 e.new (0, 0))) ?_
        replace hS : Stars (_ :: _ :: _ :: _ :: _ :: _ :: _ :: _ :: _ :: _ :: _ :: _ :: _ :: rs) _ := hS.top 6 rfl
        refine Reg.x rfl rfl rfl (e_callF rfl rfl rfl ca_17 ((mbreaks_spec _ _ _ _ _ _ _ _ _ _ _ _ _ _ _ hS _ _).mono fun v103 τ103 h103 => ?_))
        replace hS := h103
        replace hbr := least_brk (e.new != (0, 0)) hbr (show (1 : Int) ≤ 2 by decide) (by decide)
        refine Reg.done ?_
        refine St.keep [83, 12, 10, 11, 73, 9, 8, 36, 35, 5, 34, 33, 4, 3, 0, 1] ?_
        show St _ _ _ [(83, _), (12, _), (10, _), (11, _), (73, _), (9, _), (8, _), (36, _), (35, _), (5, _), (34, _), (33, _), (4, _), (3, _), (0, _), (1, _)] _ _ _
        replace hS : Stars (_ :: _ :: _ :: _ :: _ :: _ :: _ :: _ :: _ :: _ :: _ :: _ :: _ :: rs) _ := hS.top 1 rfl
        replace hS := hS.drop
        refine St.seq ?_
        refine St.seq ?_
        refine St.region rfl ?_
        refine Reg.q rfl rfl rfl (q_move rfl) ?_
        refine Reg.x rfl rfl rfl (e_callF rfl rfl rfl ca_27 ((mall_spec _ bk s _ _ _ _ _ (hS.pt 1 rfl) (hS.own 2 rfl).rd (hS.own 3 rfl).rd (by omega)).mono fun v105 τ105 h105 => ?_))
        obtain ⟨q1, c1_, rfl, hsub1, hrd1⟩ := h105
        replace hS := hS.sub hsub1
        refine Reg.q rfl rfl rfl (q_assign rfl) ?_
        refine Reg.done ?_
        refine St.keep [83, 12, 10, 11, 73, 9, 8, 36, 35, 5, 34, 33, 4, 3, 0, 1, 13] ?_
        show St _ _ _ [(13, _), (83, _), (12, _), (10, _), (11, _), (73, _), (9, _), (8, _), (36, _), (35, _), (5, _), (34, _), (33, _), (4, _), (3, _), (0, _), (1, _)] _ _ _
        refine St.seq ?_
        refine St.region rfl ?_
        refine Reg.q rfl rfl rfl (q_move rfl) ?_
        refine Reg.q rfl rfl rfl (q_lenS rfl se_60 rfl) ?_
        refine Reg.q rfl rfl rfl (q_gt rfl rfl) ?_
        refine Reg.done ?_
        refine St.keep [13, 83, 12, 10, 11, 73, 9, 8, 36, 35, 5, 34, 33, 4, 3, 0, 1, 108] ?_
        show St _ _ _ [(108, _), (13, _), (83, _), (12, _), (10, _), (11, _), (73, _), (9, _), (8, _), (36, _), (35, _), (5, _), (34, _), (33, _), (4, _), (3, _), (0, _), (1, _)] _ _ _
        replace hS : Stars (_ :: _ :: _ :: _ :: _ :: _ :: _ :: _ :: _ :: _ :: _ :: _ :: rs) _ := hS.top 8 rfl
        replace hS : Stars (_ :: _ :: _ :: _ :: _ :: _ :: _ :: _ :: _ :: _ :: _ :: _ :: rs) _ := hS.top 8 rfl
        replace hS : Stars (_ :: _ :: _ :: _ :: _ :: _ :: _ :: _ :: _ :: _ :: _ :: _ :: rs) _ := hS.top 8 rfl
        replace hS : Stars (_ :: _ :: _ :: _ :: _ :: _ :: _ :: _ :: _ :: _ :: _ :: _ :: rs) _ := hS.top 9 rfl
        replace hS : Stars (_ :: _ :: _ :: _ :: _ :: _ :: _ :: _ :: _ :: _ :: _ :: _ :: rs) _ := hS.top 10 rfl
        replace hS : Stars (_ :: _ :: _ :: _ :: _ :: _ :: _ :: _ :: _ :: _ :: _ :: _ :: rs) _ := hS.top 11 rfl
        replace hS : Stars (_ :: _ :: _ :: _ :: _ :: _ :: _ :: _ :: _ :: _ :: _ :: _ :: rs) _ := hS.top 11 rfl
        replace hS : Stars (_ :: _ :: _ :: _ :: _ :: _ :: _ :: _ :: _ :: _ :: _ :: _ :: rs) _ := hS.top 11 rfl
        replace hS : Stars (_ :: _ :: _ :: _ :: _ :: _ :: _ :: _ :: _ :: _ :: _ :: _ :: rs) _ := hS.top 11 rfl
        replace hS : Stars (_ :: _ :: _ :: _ :: _ :: _ :: _ :: _ :: _ :: _ :: _ :: _ :: rs) _ := hS.top 11 rfl
        replace hS : Stars (_ :: _ :: _ :: _ :: _ :: _ :: _ :: _ :: _ :: _ :: _ :: _ :: rs) _ := hS.top 11 rfl
        replace hS : Stars (_ :: _ :: _ :: _ :: _ :: _ :: _ :: _ :: _ :: _ :: _ :: _ :: rs) _ := hS.top 11 rfl
        refine St.joinh [108, 13, 83, 12, 10, 11, 73, 9, 8, 36, 35, 5, 34, 33, 4, 3, 0, 1] (Stars (pt tb (.cells (monC sb eb mb sp M.stays.length sc lb nb (brkI (brkI br2 2 (e.new != (0, 0))) 3 (lastBad s.all e.m)) M.len M.at_ M.rule) 53 (0, 0)) :: pt bk (.cells (mstC s a0 c0 a1 c1 cb) 65 (0, 0)) :: ownA 34 6 a0 s.p0.length c0 (s.p0.flatMap Msg.cells) :: ownA 34 6 a1 s.p1.length c1 (s.p1.flatMap Msg.cells) :: mapA encI cb cl :: mholeA bs M.stays k :: ownA 56 1 sp M.stays.length sc (bs.flatMap ptrC) :: rowsA 34 6 encSent Msg.cells sb M.sends :: mapA encWho eb (put sl (evWho e) (.bool true)) :: mapA encI lb lal :: mapA encI nb nal :: ro ρ8 :: rs)) (fun hkh4 => ?_) ?_
        · skip
          refine St.cond rfl (fun hc4 => ?_) (fun hc4 => ?_)
          · have hpos : 0 < s.all.length := by simpa using hc4
            obtain ⟨x, hx⟩ : ∃ x, s.all[s.all.length - 1]? = some x := ⟨_, List.getElem?_eq_getElem (by omega)⟩
            obtain ⟨bx, ox, csx, Tx, fx, hxp, hbx, hlx, hrx⟩ := Rd.row Msg.cells_len (by decide) hrd1 hx
            have hlb : lastBad s.all e.m = decide (cmpK x e.m ≥ 0) := by rw [lastBad, List.getLast?_eq_getElem?, hx]
            refine St.draw0 [10, 11, 13] [(0, .w), (1, .w), (2, .w), (3, .r), (4, .w), (5, .w), (6, .r), (8, .w), (9, .r), (7, .x), (10, .x), (11, .x), (12, .w), (13, .x)] mixed (by kernel_rfl) rfl ?_
            refine Dr.w rfl rfl rfl rfl (q_move rfl) ?_
            refine Dr.w rfl rfl rfl rfl (q_move rfl) ?_
            refine Dr.w rfl rfl rfl rfl (q_move rfl) ?_
            refine Dr.r rfl rfl rfl rfl (Sub.rfl' _) (q_lenS rfl se_60 rfl) ?_
            refine Dr.w rfl rfl rfl rfl (q_sub rfl rfl (show _ = ((s.all.length - 1 : Nat) : Int) from (wrap64 (by omega)).trans (by omega))) ?_
            refine Dr.w rfl rfl rfl rfl (q_indexAt se_60 rfl hxp rfl (by omega) rfl) ?_
            refine Dr.r rfl rfl rfl rfl (Sub.rfl' _) (q_loadA ac_34 rfl hbx (row_partN hrx 0 6 (by decide) rfl rfl)) ?_
            refine Dr.w rfl rfl rfl rfl (q_fieldAddr fo_39_5 rfl rfl) ?_
            refine Dr.r rfl rfl rfl rfl (Sub.rfl' _) (q_loadA ac_34 rfl (hS.ro 11 rfl _ _ h3) (rowN_row rfl)) ?_
            refine Dr.x rfl rfl rfl rfl (e_callF rfl rfl rfl ca_29 ((of_spec _ _ _ _ _ _ _).mono fun v116 τ116 h116 => ?_))
            obtain ⟨rfl, rfl⟩ := h116
            refine ⟨.inr (Sub.rfl' _), ?_⟩
            refine Dr.x rfl rfl rfl rfl (e_callF rfl rfl rfl ca_29 ((of_spec _ _ _ _ _ _ _).mono fun v119 τ119 h119 => ?_))
            obtain ⟨rfl, rfl⟩ := h119
            refine ⟨.inl rfl, ?_⟩
            refine Dr.x rfl rfl rfl rfl (e_callF rfl rfl rfl ca_28 ((kcmp_spec _ _ _ _ _).mono fun v120 τ120 h120 => ?_))
            obtain ⟨rfl, rfl⟩ := h120
            refine ⟨.inl rfl, ?_⟩
            refine Dr.w rfl rfl rfl rfl (q_ge rfl rfl) ?_
            refine Dr.x rfl rfl rfl rfl (e_callF rfl rfl rfl ca_17 ((mbreaks_spec _ _ _ _ _ _ _ _ _ _ _ _ _ _ _ hS _ _).mono fun v122 τ122 h122 => ?_))
            replace hS := h122
            refine ⟨.inl rfl, ?_⟩
            refine Dr.done ?_
            refine St.keep [108, 13, 83, 12, 10, 11, 73, 9, 8, 36, 35, 5, 34, 33, 4, 3, 0, 1] ?_
            show St _ _ _ [(108, _), (13, _), (83, _), (12, _), (10, _), (11, _), (73, _), (9, _), (8, _), (36, _), (35, _), (5, _), (34, _), (33, _), (4, _), (3, _), (0, _), (1, _)] _ _ _
            exact St.conv (SubL.list (by rfl)) (Sub.rfl' _) (hkh4 _ (by rw [hlb]; exact hS))
          · have hnil : s.all = [] := List.length_eq_zero_iff.1 (by have h0 := of_decide_eq_false hc4; omega)
            have hlb : lastBad s.all e.m = false := by rw [hnil]; rfl
            refine St.skip ?_
            exact St.conv (SubL.list (by rfl)) (Sub.rfl' _) (hkh4 _ (by rw [hlb]; exact hS))
        · intro τj hS
          show St _ _ _ [(108, _), (13, _), (83, _), (12, _), (10, _), (11, _), (73, _), (9, _), (8, _), (36, _), (35, _), (5, _), (34, _), (33, _), (4, _), (3, _), (0, _), (1, _)] _ _ _
          replace hbr := least_brk (lastBad s.all e.m) hbr (show (1 : Int) ≤ 3 by decide) (by decide)
          refine St.seq ?_
          refine St.seq ?_
          refine St.region rfl ?_
          refine Reg.q rfl rfl rfl (q_fieldAddr fo_39_5 rfl rfl) ?_
          refine Reg.q rfl rfl rfl (q_fieldAddr fo_34_4 rfl rfl) ?_
          refine Reg.q rfl rfl rfl (q_load1 ac_32 rfl (hS.ro 11 rfl _ _ h3) rfl) ?_
          refine Reg.q rfl rfl rfl (q_lenS rfl se_32 rfl) ?_
          refine Reg.q rfl rfl rfl (q_move rfl) ?_
          refine Reg.done ?_
          refine St.keep [108, 13, 83, 12, 10, 11, 73, 9, 8, 36, 35, 5, 34, 33, 4, 3, 0, 1, 125, 126, 127] ?_
          show St _ _ _ [(127, _), (126, _), (125, _), (108, _), (13, _), (83, _), (12, _), (10, _), (11, _), (73, _), (9, _), (8, _), (36, _), (35, _), (5, _), (34, _), (33, _), (4, _), (3, _), (0, _), (1, _)] _ _ _
          refine St.block ?_
          refine St.loopw (Y := Nat × Int) (fun y => [(127, .int .i64 (y.1 : Nat))]) [126, 125, 108, 13, 83, 12, 10, 11, 73, 9, 8, 36, 35, 5, 34, 33, 4, 3, 0, 1] (fun y τ => Stars (pt tb (.cells (monC sb eb mb sp M.stays.length sc lb nb y.2 M.len M.at_ M.rule) 53 (0, 0)) :: pt bk (.cells (mstC s a0 c0 a1 c1 cb) 65 (0, 0)) :: ownA 34 6 a0 s.p0.length c0 (s.p0.flatMap Msg.cells) :: ownA 34 6 a1 s.p1.length c1 (s.p1.flatMap Msg.cells) :: mapA encI cb cl :: mholeA bs M.stays k :: ownA 56 1 sp M.stays.length sc (bs.flatMap ptrC) :: rowsA 34 6 encSent Msg.cells sb M.sends :: mapA encWho eb (put sl (evWho e) (.bool true)) :: mapA encI lb lal :: mapA encI nb nal :: ro ρ8 :: rs) τ ∧ y.1 ≤ e.m.deps.length ∧ y.2 = least (fun q => (((dlvBad M e q || (q == 1 && (M.stayAt e).isNone)) || (q == 2 && e.new != (0, 0))) || (q == 3 && lastBad s.all e.m)) || (q == 4 && depBM e.m s.all y.1))) (fun y => e.m.deps.length - y.1) ((0, _)) rfl (⟨hS, Nat.zero_le _, hbr.trans (least_congr fun q => by simp [depBM, dlvBad])⟩) ?_
          intro ⟨j, br⟩ τ ⟨hS, hj, hbr⟩ back1
          simp only [] at hS hj hbr
          show St _ _ _ [(127, _), (126, _), (125, _), (108, _), (13, _), (83, _), (12, _), (10, _), (11, _), (73, _), (9, _), (8, _), (36, _), (35, _), (5, _), (34, _), (33, _), (4, _), (3, _), (0, _), (1, _)] _ _ _
          refine St.seq ?_
          refine St.region rfl ?_
          refine Reg.q rfl rfl rfl (q_lt rfl rfl) ?_
          refine Reg.done ?_
          refine St.keep [127, 126, 125, 108, 13, 83, 12, 10, 11, 73, 9, 8, 36, 35, 5, 34, 33, 4, 3, 0, 1, 128] ?_
          show St _ _ _ [(128, _), (127, _), (126, _), (125, _), (108, _), (13, _), (83, _), (12, _), (10, _), (11, _), (73, _), (9, _), (8, _), (36, _), (35, _), (5, _), (34, _), (33, _), (4, _), (3, _), (0, _), (1, _)] _ _ _
          refine St.seq ?_
          refine St.cond rfl (fun hc5 => ?_) (fun hc5 => ?_)
          · simp at hc5
            obtain ⟨dn, hdn⟩ : ∃ n, e.m.deps[j]? = some n := ⟨_, List.getElem?_eq_getElem hc5⟩
            obtain ⟨bd, od, csd, Td, fd, hdp, hbd, hld, hrdd⟩ := Rd.row u32_len (by decide) hok.1.1 hdn
            replace hbd := hs348 _ _ hbd
            refine St.skip ?_
            refine St.seq ?_
            refine St.block ?_
            refine St.seq ?_
            refine St.region rfl ?_
            refine Reg.q rfl rfl rfl (q_move rfl) ?_
            refine Reg.q rfl rfl rfl (q_indexAt se_32 rfl hdp rfl (by omega) rfl) ?_
            refine Reg.q rfl rfl rfl (q_load1 ac_31 rfl (hS.ro 11 rfl _ _ hbd) (row_cell hrdd 0 rfl)) ?_
            refine Reg.q rfl rfl rfl (q_assign rfl) ?_
            refine Reg.q rfl rfl rfl (q_assign rfl) ?_
            refine Reg.done ?_
            refine St.keep [128, 127, 126, 125, 108, 13, 83, 12, 10, 11, 73, 9, 8, 36, 35, 5, 34, 33, 4, 3, 0, 1, 14, 15] ?_
            show St _ _ _ [(15, _), (14, _), (128, _), (127, _), (126, _), (125, _), (108, _), (13, _), (83, _), (12, _), (10, _), (11, _), (73, _), (9, _), (8, _), (36, _), (35, _), (5, _), (34, _), (33, _), (4, _), (3, _), (0, _), (1, _)] _ _ _
            refine St.region rfl ?_
            refine Reg.q rfl rfl rfl (q_move rfl) ?_
            refine Reg.q rfl rfl rfl (q_move rfl) ?_
            refine Reg.q rfl rfl rfl (q_conv ti_31_3 rfl rfl) ?_
            refine Reg.q rfl rfl rfl (q_move rfl) ?_
            refine Reg.q rfl rfl rfl (q_nil rfl) ?_
            refine Reg.q rfl rfl rfl (q_fieldAddr fo_65_4 rfl rfl) ?_
            refine Reg.q rfl rfl rfl (q_load1 ac_62 rfl (hS.pt 1 rfl) rfl) ?_
            refine Reg.q rfl rfl rfl (q_move rfl) ?_
            refine Reg.q rfl rfl rfl (q_lookup Try.underlying62 key_3 zv_3 rfl rfl (hS.map 4 rfl) (hcn j)) ?_
            refine Reg.q rfl rfl rfl (q_gt rfl rfl) ?_
            refine Reg.x rfl rfl rfl (e_callF rfl rfl rfl ca_17 ((mbreaks_spec _ _ _ _ _ _ _ _ _ _ _ _ _ _ _ hS _ _).mono fun v142 τ142 h142 => ?_))
            replace hS := h142
            replace hbr := least_brk (decide (IntKind.i64.wrap dn > cntM s.all j)) hbr (show (1 : Int) ≤ 4 by decide) (by decide)
            refine Reg.done ?_
            refine St.keep [15, 14, 128, 127, 126, 125, 108, 13, 83, 12, 10, 11, 73, 9, 8, 36, 35, 5, 34, 33, 4, 3, 0, 1] ?_
            show St _ _ _ [(15, _), (14, _), (128, _), (127, _), (126, _), (125, _), (108, _), (13, _), (83, _), (12, _), (10, _), (11, _), (73, _), (9, _), (8, _), (36, _), (35, _), (5, _), (34, _), (33, _), (4, _), (3, _), (0, _), (1, _)] _ _ _
            refine St.inBlock ?_
            refine St.region rfl ?_
            refine Reg.q rfl rfl rfl (q_add rfl rfl (inc64 (by omega))) ?_
            refine Reg.q rfl rfl rfl (q_move rfl) ?_
            refine Reg.done ?_
            refine St.keep [15, 14, 128, 127, 126, 125, 108, 13, 83, 12, 10, 11, 73, 9, 8, 36, 35, 5, 34, 33, 4, 3, 0, 1] ?_
            show St _ _ _ [(127, _), (15, _), (14, _), (128, _), (127, _), (126, _), (125, _), (108, _), (13, _), (83, _), (12, _), (10, _), (11, _), (73, _), (9, _), (8, _), (36, _), (35, _), (5, _), (34, _), (33, _), (4, _), (3, _), (0, _), (1, _)] _ _ _
            refine St.conv (SubL.list (by rfl)) (Sub.rfl' _) (back1 ((j + 1, brkI br 4 (decide (IntKind.i64.wrap dn > cntM s.all j)))) _ ?_ ?_)
            · exact ⟨hS, by simp only []; omega, hbr.trans (least_congr fun q => by simp only []; rw [depBM_succ hdn]; cases (q == 4) <;> simp [Bool.or_assoc])⟩
            · simp only []; omega
          · simp at hc5
            obtain rfl : j = e.m.deps.length := by omega
            have hcb := cntM_bd s.all e.m.frm
            refine St.exit rfl ?_
            refine St.seq ?_
            refine St.draw0 [9] [(0, .w), (1, .w), (2, .w), (3, .r), (4, .w), (5, .w), (6, .r), (7, .r), (8, .w), (9, .x)] mixed (by kernel_rfl) rfl ?_
            refine Dr.w rfl rfl rfl rfl (q_move rfl) ?_
            refine Dr.w rfl rfl rfl rfl (q_nil rfl) ?_
            refine Dr.w rfl rfl rfl rfl (q_fieldAddr fo_65_4 rfl rfl) ?_
            refine Dr.r rfl rfl rfl rfl (Sub.rfl' _) (q_load1 ac_62 rfl (hS.pt 1 rfl) rfl) ?_
            refine Dr.w rfl rfl rfl rfl (q_fieldAddr fo_39_5 rfl rfl) ?_
            refine Dr.w rfl rfl rfl rfl (q_fieldAddr fo_34_0 rfl rfl) ?_
            refine Dr.r rfl rfl rfl rfl (Sub.rfl' _) (q_load1 ac_3 rfl (hS.ro 11 rfl _ _ h3) rfl) ?_
            refine Dr.r rfl rfl rfl rfl (Sub.rfl' _) (q_lookup Try.underlying62 key_3 zv_3 rfl rfl (hS.map 4 rfl) (hcn e.m.frm)) ?_
            refine Dr.w rfl rfl rfl rfl (q_add rfl rfl (wrap64 (by omega))) ?_
            refine Dr.no rfl rfl rfl (e_mapUpdate Try.underlying62 key_3 rfl rfl rfl (hS.map 4 rfl) (fun τu27_9 hmu27_9 huu27_9 => ⟨.inl rfl, ?_⟩))
            replace hS : Stars (_ :: _ :: _ :: _ :: _ :: _ :: _ :: _ :: _ :: _ :: _ :: _ :: rs) _ := (hS.top 4 rfl).mapU huu27_9 hmu27_9
            refine Dr.done ?_
            refine St.keep [128, 127, 126, 125, 108, 13, 83, 12, 10, 11, 73, 9, 8, 36, 35, 5, 34, 33, 4, 3, 0, 1] ?_
            show St _ _ _ [(128, _), (127, _), (126, _), (125, _), (108, _), (13, _), (83, _), (12, _), (10, _), (11, _), (73, _), (9, _), (8, _), (36, _), (35, _), (5, _), (34, _), (33, _), (4, _), (3, _), (0, _), (1, _)] _ _ _
            refine St.seq ?_
            refine St.draw0 [11, 15] [(0, .w), (1, .w), (2, .w), (3, .w), (4, .w), (5, .w), (6, .w), (7, .r), (8, .w), (9, .r), (12, .w), (13, .w), (10, .x), (11, .x), (14, .w), (15, .x)] mixed (by kernel_rfl) rfl ?_
            refine Dr.w rfl rfl rfl rfl (q_move rfl) ?_
            refine Dr.w rfl rfl rfl rfl (q_move rfl) ?_
            refine Dr.w rfl rfl rfl rfl (q_move rfl) ?_
            refine Dr.w rfl rfl rfl rfl (q_move rfl) ?_
            refine Dr.w rfl rfl rfl rfl (q_nil rfl) ?_
            refine Dr.w rfl rfl rfl rfl (q_fieldAddr fo_65_3 rfl rfl) ?_
            refine Dr.w rfl rfl rfl rfl (q_indexAddrA ae_61 rfl rfl (by decide) rfl) ?_
            refine Dr.r rfl rfl rfl rfl (Sub.rfl' _) (q_load1 ac_60 rfl (hS.pt 2 rfl) rfl) ?_
            refine Dr.w rfl rfl rfl rfl (q_fieldAddr fo_39_5 rfl rfl) ?_
            refine Dr.r rfl rfl rfl rfl (Sub.rfl' _) (q_loadA ac_34 rfl (hS.ro 11 rfl _ _ h3) (rowN_row rfl)) ?_
            refine Dr.w rfl rfl rfl rfl (q_nil rfl) ?_
            refine Dr.w rfl rfl rfl rfl (q_fieldAddr fo_65_3 rfl rfl) ?_
            refine Dr.x rfl rfl rfl rfl (e_buildSlice so_60 zo_34 zr_34_1 rfl rfl rfl (fillN_fill rfl) (fun b163 τ163 hb163 => ⟨.inr hb163.sub, ?_⟩))
            replace hS : Stars (_ :: _ :: _ :: _ :: _ :: _ :: _ :: _ :: _ :: _ :: _ :: _ :: _ :: rs) _ := hS.fresh hb163
            refine Dr.x rfl rfl rfl rfl (e_append rfl Try.underlying60 Try.underlying60 sb_34 zo_34 rfl rfl rfl (hS.own 4 rfl) (Rd.lit (hS.pt 0 rfl) rfl) (.inl (by omega)) (allFlat_mem rfl) (by omega) (by omega) (fun b164 o164 c164 τ164 hf164 hu164 ho164 => ⟨.inl rfl, ?_⟩))
            replace hS : Stars (_ :: _ :: _ :: _ :: _ :: _ :: _ :: _ :: _ :: _ :: _ :: _ :: _ :: rs) _ := (hS.top 4 rfl).ownU hf164 hu164 ho164
            refine Dr.w rfl rfl rfl rfl (q_indexAddrA ae_61 rfl rfl (by decide) rfl) ?_
            refine Dr.no rfl rfl rfl (e_store rfl rfl sz_60 rfl (hS.pt 4 rfl) (Nat.le_of_ble_eq_true rfl) rfl (storeN_row rfl) (fun τs28_15 hs28_15 hu28_15 => ⟨.inl rfl, ?_⟩))
            replace hS : Stars (_ :: _ :: _ :: _ :: _ :: _ :: _ :: _ :: _ :: _ :: _ :: _ :: _ :: rs) _ := (hS.top 4 rfl).ptU hu28_15 hs28_15
            refine Dr.done ?_
            refine St.keep [128, 127, 126, 125, 108, 13, 83, 12, 10, 11, 73, 9, 8, 36, 35, 5, 34, 33, 4, 3, 0, 1] ?_
            show St _ _ _ [(128, _), (127, _), (126, _), (125, _), (108, _), (13, _), (83, _), (12, _), (10, _), (11, _), (73, _), (9, _), (8, _), (36, _), (35, _), (5, _), (34, _), (33, _), (4, _), (3, _), (0, _), (1, _)] _ _ _
            have hgot : s.got e.m = ({ s with p0 := s.p0 ++ [e.m] } : MSt) := by unfold MSt.got; rw [if_neg (by rw [hc3]; simp)]
            have e1 : (s.p0 ++ [e.m]).length = s.p0.length + 1 := by simp
            have e2 : (s.p0 ++ [e.m]).flatMap Msg.cells = s.p0.flatMap Msg.cells ++ e.m.cells := by simp
            replace hS : Stars (_ :: _ :: _ :: _ :: _ :: _ :: _ :: _ :: _ :: _ :: _ :: _ :: _ :: rs) _ := hS.top 2 rfl
            replace hS := hS.drop
            replace hS : Stars (_ :: _ :: _ :: _ :: _ :: _ :: _ :: _ :: _ :: _ :: _ :: _ :: rs) _ := hS.top 1 rfl
            replace hS : Stars (ownA 34 6 (some ⟨b164, o164, none⟩) (s.p0 ++ [e.m]).length c164 ((s.p0 ++ [e.m]).flatMap Msg.cells) :: _) _ := hS.imp fun h hx => by rw [e1, e2]; exact hx
            replace hS : Stars (_ :: _ :: _ :: _ :: _ :: _ :: _ :: _ :: _ :: _ :: _ :: _ :: rs) _ := hS.top 1 rfl
            replace hS : Stars (pt bk (.cells (mstC ({ s with p0 := s.p0 ++ [e.m] } : MSt) (some ⟨b164, o164, none⟩) c164 a1 c1 cb) 65 (0, 0)) :: _) _ := hS.imp fun h hx => by simp only [mstC, e1]; exact hx
            replace hS : Stars (_ :: _ :: _ :: _ :: _ :: _ :: _ :: _ :: _ :: _ :: _ :: _ :: rs) _ := hS.top 5 rfl
            replace hS : Stars (_ :: _ :: _ :: _ :: _ :: _ :: _ :: _ :: _ :: _ :: _ :: _ :: rs) _ := hS.top 3 rfl
            replace hS : Stars (_ :: _ :: _ :: _ :: _ :: _ :: _ :: _ :: _ :: _ :: _ :: _ :: rs) _ := hS.top 5 rfl
            replace hS : Stars (_ :: _ :: _ :: _ :: _ :: _ :: _ :: _ :: _ :: _ :: _ :: _ :: rs) _ := hS.top 4 rfl
            replace hS : Stars (_ :: _ :: _ :: _ :: _ :: _ :: _ :: _ :: _ :: _ :: _ :: _ :: rs) _ := hS.top 4 rfl
            have hcn2 : CntM (put cl e.m.frm (.int .i64 (cntM s.all e.m.frm + 1))) ({ s with p0 := s.p0 ++ [e.m] } : MSt).all := hcn.put fun q => by simp only [MSt.all, cntM_app]; omega
            replace hS := msts_close (s := ({ s with p0 := s.p0 ++ [e.m] } : MSt)) hcn2 hS hbk hklt
            rw [← hgot] at hS
            replace hS : Stars (_ :: _ :: _ :: _ :: _ :: _ :: _ :: _ :: rs) _ := hS.top 7 rfl
            replace hS : Stars (_ :: _ :: _ :: _ :: _ :: _ :: _ :: _ :: rs) _ := hS.top 1 rfl
            replace hS : Stars (_ :: _ :: _ :: _ :: _ :: _ :: _ :: _ :: rs) _ := hS.top 3 rfl
            obtain ⟨ρL, hρ, hS'⟩ := (hS.fold 3).fix
            replace hS := hS'
            replace hS : Stars (_ :: _ :: _ :: _ :: _ :: _ :: rs) _ := hS.top 5 rfl
            replace hS : Stars (_ :: _ :: _ :: _ :: _ :: _ :: rs) _ := hS.top 5 rfl
            replace hS : Stars (_ :: _ :: _ :: _ :: _ :: _ :: rs) _ := hS.top 5 rfl
            replace hS : Stars (_ :: _ :: _ :: _ :: _ :: _ :: rs) _ := hS.top 5 rfl
            replace hS : Stars (_ :: _ :: _ :: _ :: _ :: _ :: rs) _ := hS.top 5 rfl
            replace hρ : Stars [_, _, _] ρL := hρ
            have hsL := hρ.ro 2 rfl
            have hrdL := (hρ.own 0 rfl).rd
            have hgc : (s.got e.m).conf = s.conf := by rw [hgot]
            have hks : (M.stays.set k (s.got e.m))[k]? = some (s.got e.m) := by rw [List.getElem?_set]; simp [hklt]
            obtain ⟨as0, cs0, as1, cs1, csb, csl, hsts, _, _, _, _⟩ := msts_at hρ (k := 1) rfl hbk hks
            have hwfL : ∀ x ∈ M.stays.set k (s.got e.m), x.wf ρ 39 100000 := fun x hx => by
              rcases List.mem_or_eq_of_mem_set hx with h | h
              · exact (hM.wf x h).up (Sub.rfl' _) (by omega)
              · subst h; exact ((hM.wf s (List.mem_of_getElem? hs)).got hok.1).up (Sub.rfl' _) (by omega)
            refine St.seq ?_
            refine St.region rfl ?_
            refine Reg.q rfl rfl rfl (q_move rfl) ?_
            refine Reg.q rfl rfl rfl (q_nil rfl) ?_
            refine Reg.q rfl rfl rfl (q_fieldAddr fo_53_0 rfl rfl) ?_
            refine Reg.q rfl rfl rfl (q_fieldAddr fo_49_3 rfl rfl) ?_
            refine Reg.q rfl rfl rfl (q_load1 ac_47 rfl (hS.pt 0 rfl) rfl) ?_
            refine Reg.q rfl rfl rfl (q_lenS rfl se_47 rfl) ?_
            refine Reg.q rfl rfl rfl (q_move rfl) ?_
            refine Reg.done ?_
            refine St.keep [128, 127, 126, 125, 108, 13, 83, 12, 10, 11, 73, 9, 8, 36, 35, 5, 34, 33, 4, 3, 0, 1, 172, 173, 174] ?_
            show St _ _ _ [(174, _), (173, _), (172, _), (128, _), (127, _), (126, _), (125, _), (108, _), (13, _), (83, _), (12, _), (10, _), (11, _), (73, _), (9, _), (8, _), (36, _), (35, _), (5, _), (34, _), (33, _), (4, _), (3, _), (0, _), (1, _)] _ _ _
            refine St.block ?_
            refine St.loopw (Y := Nat × Int) (fun y => [(174, .int .i64 (y.1 : Nat))]) [173, 172, 128, 127, 126, 125, 108, 13, 83, 12, 10, 11, 73, 9, 8, 36, 35, 5, 34, 33, 4, 3, 0, 1] (fun y τ => Stars (pt tb (.cells (monC sb eb mb sp M.stays.length sc lb nb y.2 M.len M.at_ M.rule) 53 (0, 0)) :: rowsA 34 6 encSent Msg.cells sb M.sends :: mapA encWho eb (put sl (evWho e) (.bool true)) :: mapA encI lb lal :: mapA encI nb nal :: ro ρL :: rs) τ ∧ y.1 ≤ M.stays.length ∧ y.2 = least (fun q => ((((dlvBad M e q || (q == 1 && (M.stayAt e).isNone)) || (q == 2 && e.new != (0, 0))) || (q == 3 && lastBad s.all e.m)) || (q == 4 && depBM e.m s.all e.m.deps.length)) || (q == 6 && ((M.stays.set k (s.got e.m)).take y.1).any fun b => (b.conf == s.conf && b.went) && owesM s.mem b e.m))) (fun y => M.stays.length - y.1) ((0, br)) rfl (⟨hS, Nat.zero_le _, hbr.trans (least_congr fun q => by simp)⟩) ?_
            intro ⟨j, br⟩ τ ⟨hS, hj, hbr⟩ back2
            simp only [] at hS hj hbr
            show St _ _ _ [(174, _), (173, _), (172, _), (128, _), (127, _), (126, _), (125, _), (108, _), (13, _), (83, _), (12, _), (10, _), (11, _), (73, _), (9, _), (8, _), (36, _), (35, _), (5, _), (34, _), (33, _), (4, _), (3, _), (0, _), (1, _)] _ _ _
            refine St.seq ?_
            refine St.region rfl ?_
            refine Reg.q rfl rfl rfl (q_lt rfl rfl) ?_
            refine Reg.done ?_
            refine St.keep [174, 173, 172, 128, 127, 126, 125, 108, 13, 83, 12, 10, 11, 73, 9, 8, 36, 35, 5, 34, 33, 4, 3, 0, 1, 175] ?_
            show St _ _ _ [(175, _), (174, _), (173, _), (172, _), (128, _), (127, _), (126, _), (125, _), (108, _), (13, _), (83, _), (12, _), (10, _), (11, _), (73, _), (9, _), (8, _), (36, _), (35, _), (5, _), (34, _), (33, _), (4, _), (3, _), (0, _), (1, _)] _ _ _
            refine St.seq ?_
            refine St.cond rfl (fun hc6 => ?_) (fun hc6 => ?_)
            · simp at hc6
              obtain ⟨b, hb⟩ : ∃ b, (M.stays.set k (s.got e.m))[j]? = some b := ⟨_, List.getElem?_eq_getElem (by rw [List.length_set]; exact hc6)⟩
              obtain ⟨bb, hbb⟩ : ∃ bb, bs[j]? = some bb := ⟨_, List.getElem?_eq_getElem (by rw [hM.len]; exact hc6)⟩
              have hwb := hwfL b (List.mem_of_getElem? hb)
              have hwbf := hwb.few
              have hat := any_take hb (fun b => (b.conf == s.conf && b.went) && owesM s.mem b e.m)
              obtain ⟨b9, o9, cs9, T9, f9, hsp9, hb9, hl9, hr9⟩ := Rd.row ptrC_len (by decide) hrdL hbb
              obtain ⟨ab0, cb0, ab1, cb1, cbb, clb, hstb, hrb0, hrb1, _, _⟩ := msts_at hρ (k := 1) rfl hbb hb
              have hsr := hs348.trans hsL
              refine St.skip ?_
              refine St.seq ?_
              refine St.block ?_
              refine St.seq ?_
              refine St.region rfl ?_
              refine Reg.q rfl rfl rfl (q_indexAt se_47 rfl hsp9 rfl (by omega) rfl) ?_
              refine Reg.q rfl rfl rfl (q_load1 ac_56 rfl (hS.ro 5 rfl _ _ hb9) (row_cell hr9 0 rfl)) ?_
              refine Reg.q rfl rfl rfl (q_assign rfl) ?_
              refine Reg.done ?_
              refine St.keep [175, 174, 173, 172, 128, 127, 126, 125, 108, 13, 83, 12, 10, 11, 73, 9, 8, 36, 35, 5, 34, 33, 4, 3, 0, 1, 17] ?_
              show St _ _ _ [(17, _), (175, _), (174, _), (173, _), (172, _), (128, _), (127, _), (126, _), (125, _), (108, _), (13, _), (83, _), (12, _), (10, _), (11, _), (73, _), (9, _), (8, _), (36, _), (35, _), (5, _), (34, _), (33, _), (4, _), (3, _), (0, _), (1, _)] _ _ _
              refine St.seq ?_
              refine St.draw0 [] [(0, .w), (1, .w), (2, .w), (3, .r), (4, .w), (5, .w), (6, .w), (7, .r), (8, .w), (9, .w), (10, .w), (11, .w), (12, .w), (13, .r), (14, .w)] mixed (by kernel_rfl) rfl ?_
              refine Dr.w rfl rfl rfl rfl (q_move rfl) ?_
              refine Dr.w rfl rfl rfl rfl (q_nil rfl) ?_
              refine Dr.w rfl rfl rfl rfl (q_fieldAddr fo_65_1 rfl rfl) ?_
              refine Dr.r rfl rfl rfl rfl (Sub.rfl' _) (q_loadA ac_30 rfl (hS.ro 5 rfl _ _ hstb) (rowN_row rfl)) ?_
              refine Dr.w rfl rfl rfl rfl (q_move rfl) ?_
              refine Dr.w rfl rfl rfl rfl (q_nil rfl) ?_
              refine Dr.w rfl rfl rfl rfl (q_fieldAddr fo_65_1 rfl rfl) ?_
              refine Dr.r rfl rfl rfl rfl (Sub.rfl' _) (q_loadA ac_30 rfl (hS.ro 5 rfl _ _ hsts) (rowN_row rfl)) ?_
              refine Dr.w rfl rfl rfl rfl (q_aeq rfl rfl eg_30 (eq_30 b.conf (s.got e.m).conf)) ?_
              refine Dr.w rfl rfl rfl rfl (q_move rfl) ?_
              refine Dr.joinv 192 (.bool (b.conf == s.conf && b.went)) 5 [17, 175, 174, 173, 172, 128, 127, 126, 125, 108, 13, 83, 12, 10, 11, 73, 9, 8, 36, 35, 5, 34, 33, 4, 3, 0, 1, 178, 179, 180, 181, 182, 183, 184, 185, 186] (fun hk32_14 => ?_) ?_
              · skip
                refine Dr.split (d := 187) rfl (fun hg187 => ?_) (fun hg187 => ?_)
                · rw [hgc] at hg187
                  refine Dr.w rfl rfl rfl rfl (q_move rfl) ?_
                  refine Dr.w rfl rfl rfl rfl (q_nil rfl) ?_
                  refine Dr.w rfl rfl rfl rfl (q_fieldAddr fo_65_6 rfl rfl) ?_
                  refine Dr.r rfl rfl rfl rfl (Sub.rfl' _) (q_load1 ac_4 rfl (hS.ro 5 rfl _ _ hstb) rfl) ?_
                  refine Dr.w rfl rfl rfl rfl (q_pickT rfl rfl) ?_
                  exact Dr.meet 6 [17, 175, 174, 173, 172, 128, 127, 126, 125, 108, 13, 83, 12, 10, 11, 73, 9, 8, 36, 35, 5, 34, 33, 4, 3, 0, 1, 178, 179, 180, 181, 182, 183, 184, 185, 186] hk32_14 rfl (by simp only [hgc, hg187, Bool.true_and, Bool.false_and]) rfl rfl
                · rw [hgc] at hg187
                  refine Dr.skip rfl rfl rfl rfl ?_
                  refine Dr.skip rfl rfl rfl rfl ?_
                  refine Dr.skip rfl rfl rfl rfl ?_
                  refine Dr.skip rfl rfl rfl rfl ?_
                  refine Dr.w rfl rfl rfl rfl (q_pickF rfl rfl) ?_
                  exact Dr.meet 6 [17, 175, 174, 173, 172, 128, 127, 126, 125, 108, 13, 83, 12, 10, 11, 73, 9, 8, 36, 35, 5, 34, 33, 4, 3, 0, 1, 178, 179, 180, 181, 182, 183, 184, 185, 186] hk32_14 rfl (by simp only [hgc, hg187, Bool.true_and, Bool.false_and]) rfl rfl
              · skip
                refine Dr.done ?_
                refine St.keep [17, 175, 174, 173, 172, 128, 127, 126, 125, 108, 13, 83, 12, 10, 11, 73, 9, 8, 36, 35, 5, 34, 33, 4, 3, 0, 1, 192] ?_
                show St _ _ _ [(192, _), (17, _), (175, _), (174, _), (173, _), (172, _), (128, _), (127, _), (126, _), (125, _), (108, _), (13, _), (83, _), (12, _), (10, _), (11, _), (73, _), (9, _), (8, _), (36, _), (35, _), (5, _), (34, _), (33, _), (4, _), (3, _), (0, _), (1, _)] _ _ _
                refine St.cond rfl (fun hc7 => ?_) (fun hc7 => ?_)
                · skip
                  refine St.region rfl ?_
                  refine Reg.q rfl rfl rfl (q_move rfl) ?_
                  refine Reg.q rfl rfl rfl (q_move rfl) ?_
                  refine Reg.q rfl rfl rfl (q_move rfl) ?_
                  refine Reg.q rfl rfl rfl (q_fieldAddr fo_39_5 rfl rfl) ?_
                  refine Reg.q rfl rfl rfl (q_loadA ac_34 rfl (hS.ro 5 rfl _ _ (hsL _ _ h3)) (rowN_row rfl)) ?_
                  refine Reg.x rfl rfl rfl (e_buildSlice so_60 zo_34 zr_34_1 rfl rfl rfl (fillN_fill rfl) (fun b198 τ198 hb198 => ?_))
                  replace hS : Stars (_ :: _ :: _ :: _ :: _ :: _ :: _ :: rs) _ := hS.fresh hb198
                  refine Reg.q rfl rfl rfl (q_move rfl) ?_
                  replace hS : Stars (_ :: _ :: _ :: _ :: _ :: _ :: _ :: rs) _ := hS.top 6 rfl
                  replace hS : Stars (_ :: _ :: _ :: _ :: _ :: _ :: _ :: rs) _ := hS.top 1 rfl
                  obtain ⟨ρ9, hs9, h9, hS'⟩ := hS.roNew
                  replace hS := hS'
                  replace hS : Stars (_ :: _ :: _ :: _ :: _ :: _ :: rs) _ := hS.top 1 rfl
                  refine Reg.x rfl rfl rfl (e_callF rfl rfl rfl ca_30 ((mowes_spec _ ρ9 _ _ _ _ _ _ _ _ _ _ _ _ _ br _ hbr hS bb b _ _ _ _ _ (hs9 _ _ hstb) (Rd.up hrb0 hs9) (Rd.up hrb1 hs9) hwb.few (fun m hm => (hwb.ok0 m hm).up (hsr.trans hs9)) (fun m hm => (hwb.ok1 m hm).up (hsr.trans hs9)) _ [e.m] _ _ (Rd.lit (m := 6) (k := 1) h9 rfl) (fun m hm => by simp at hm; subst hm; exact hok.1.up (hsr.trans hs9)) (by simp) _).mono fun v200 τ200 h200 => ?_))
                  obtain ⟨br3, hS, hbr3⟩ := h200
                  replace hS : Stars (_ :: _ :: _ :: _ :: _ :: _ :: rs) _ := hS.top 1 rfl
                  replace hS : Stars (ro ρL :: _) _ := hS.imp fun h hx => hs9.trans hx
                  replace hS : Stars (_ :: _ :: _ :: _ :: _ :: _ :: rs) _ := hS.top 5 rfl
                  replace hS : Stars (_ :: _ :: _ :: _ :: _ :: _ :: rs) _ := hS.top 5 rfl
                  replace hS : Stars (_ :: _ :: _ :: _ :: _ :: _ :: rs) _ := hS.top 5 rfl
                  replace hS : Stars (_ :: _ :: _ :: _ :: _ :: _ :: rs) _ := hS.top 5 rfl
                  replace hS : Stars (_ :: _ :: _ :: _ :: _ :: _ :: rs) _ := hS.top 5 rfl
                  refine Reg.done ?_
                  refine St.keep [192, 17, 175, 174, 173, 172, 128, 127, 126, 125, 108, 13, 83, 12, 10, 11, 73, 9, 8, 36, 35, 5, 34, 33, 4, 3, 0, 1] ?_
                  show St _ _ _ [(192, _), (17, _), (175, _), (174, _), (173, _), (172, _), (128, _), (127, _), (126, _), (125, _), (108, _), (13, _), (83, _), (12, _), (10, _), (11, _), (73, _), (9, _), (8, _), (36, _), (35, _), (5, _), (34, _), (33, _), (4, _), (3, _), (0, _), (1, _)] _ _ _
                  refine St.inBlock ?_
                  refine St.region rfl ?_
                  refine Reg.q rfl rfl rfl (q_add rfl rfl (inc64 (by omega))) ?_
                  refine Reg.q rfl rfl rfl (q_move rfl) ?_
                  refine Reg.done ?_
                  refine St.keep [192, 17, 175, 174, 173, 172, 128, 127, 126, 125, 108, 13, 83, 12, 10, 11, 73, 9, 8, 36, 35, 5, 34, 33, 4, 3, 0, 1] ?_
                  show St _ _ _ [(174, _), (192, _), (17, _), (175, _), (174, _), (173, _), (172, _), (128, _), (127, _), (126, _), (125, _), (108, _), (13, _), (83, _), (12, _), (10, _), (11, _), (73, _), (9, _), (8, _), (36, _), (35, _), (5, _), (34, _), (33, _), (4, _), (3, _), (0, _), (1, _)] _ _ _
                  refine St.conv (SubL.list (by rfl)) (Sub.rfl' _) (back2 ((j + 1, br3)) _ ?_ ?_)
                  · exact ⟨hS, by simp only []; omega, hbr3.trans (least_congr fun q => by simp only []; rw [hat, hc7]; cases (q == 6) <;> simp [Bool.or_assoc])⟩
                  · simp only []; omega
                · skip
                  refine St.skip ?_
                  refine St.inBlock ?_
                  refine St.region rfl ?_
                  refine Reg.q rfl rfl rfl (q_add rfl rfl (inc64 (by omega))) ?_
                  refine Reg.q rfl rfl rfl (q_move rfl) ?_
                  refine Reg.done ?_
                  refine St.keep [192, 17, 175, 174, 173, 172, 128, 127, 126, 125, 108, 13, 83, 12, 10, 11, 73, 9, 8, 36, 35, 5, 34, 33, 4, 3, 0, 1] ?_
                  show St _ _ _ [(174, _), (192, _), (17, _), (175, _), (174, _), (173, _), (172, _), (128, _), (127, _), (126, _), (125, _), (108, _), (13, _), (83, _), (12, _), (10, _), (11, _), (73, _), (9, _), (8, _), (36, _), (35, _), (5, _), (34, _), (33, _), (4, _), (3, _), (0, _), (1, _)] _ _ _
                  refine St.conv (SubL.list (by rfl)) (Sub.rfl' _) (back2 ((j + 1, br)) _ ?_ ?_)
                  · exact ⟨hS, by simp only []; omega, hbr.trans (least_congr fun q => by simp only []; rw [hat, hc7]; simp)⟩
                  · simp only []; omega
            · simp at hc6
              obtain rfl : j = M.stays.length := by omega
              have htl : (M.stays.set k (s.got e.m)).take M.stays.length = M.stays.set k (s.got e.m) := List.take_of_length_le (by rw [List.length_set]; exact Nat.le_refl _)
              rw [htl] at hbr
              refine St.exit rfl ?_
              refine St.fin Try.func15 .nil (Sub.rfl' _) ?_
              replace hS : Stars (_ :: _ :: _ :: _ :: _ :: _ :: rs) _ := hS.top 5 rfl
              replace hS : Stars (Stars [_, _, _] :: _) _ := hS.imp fun h hx => hρ.sub hx
              replace hS := hS.flat
              replace hS : Stars (_ :: _ :: _ :: _ :: _ :: _ :: _ :: _ :: rs) _ := hS.top 2 rfl
              replace hS : Stars (ro ρ :: _) _ := hS.imp fun h hx => hs348.trans hx
              replace hS : Stars (_ :: _ :: _ :: _ :: _ :: _ :: _ :: _ :: rs) _ := hS.top 2 rfl
              replace hS : Stars (_ :: _ :: _ :: _ :: _ :: _ :: _ :: _ :: rs) _ := hS.top 2 rfl
              replace hS : Stars (_ :: _ :: _ :: _ :: _ :: _ :: _ :: _ :: rs) _ := hS.top 7 rfl
              replace hS : Stars (_ :: _ :: _ :: _ :: _ :: _ :: _ :: _ :: rs) _ := hS.top 7 rfl
              replace hS : Stars (_ :: _ :: _ :: _ :: _ :: _ :: _ :: _ :: rs) _ := hS.top 7 rfl
              replace hS : Stars (_ :: _ :: _ :: _ :: _ :: _ :: _ :: _ :: rs) _ := hS.top 7 rfl
              replace hS : Stars (_ :: _ :: _ :: _ :: _ :: _ :: _ :: _ :: rs) _ := hS.top 7 rfl
              obtain ⟨m1, m2⟩ := mdeliver_some hse
              obtain ⟨r1, r2, r3, r4, r5, r6, r7, r8⟩ := mdeliver_rest M e
              refine ⟨_, ?_, hbr.trans (least_congr fun q => ?_), hM.deliver e hok.1⟩
              · rw [m1, r1]; exact hS
              · rw [m2, hse]; simp only [MSt.told, hxN, Option.isSome_some, Option.isSome_none, if_true, Bool.false_eq_true, if_false, transMem, transNew, Option.isNone_some, Bool.and_false, Bool.or_false]
end Go.Proofs.Ytdgdbnkhmdncdaa
