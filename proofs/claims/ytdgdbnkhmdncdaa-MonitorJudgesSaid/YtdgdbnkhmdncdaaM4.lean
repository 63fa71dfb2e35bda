/- The monitor: EvSend, EvDeliver. -/
import Derived.Test.YtdgdbnkhmdncdaaM2
import Derived.Test.YtdgdbnkhmdncdaaMl
set_option linter.unusedSectionVars false
set_option linter.unusedSimpArgs false
set_option linter.unusedVariables false
namespace Go.Proofs.Ytdgdbnkhmdncdaa
open Go.Gw Go.Cs
variable [Env]
set_option maxHeartbeats 1000000
namespace FM4
theorem ac_3 : aggCells Try.prog 3 = some none := by kernel_rfl
theorem ac_30 : aggCells Try.prog 30 = some (some 2) := by kernel_rfl
theorem ac_31 : aggCells Try.prog 31 = some none := by kernel_rfl
theorem ac_34 : aggCells Try.prog 34 = some (some 6) := by kernel_rfl
theorem ac_39 : aggCells Try.prog 39 = some (some 19) := by kernel_rfl
theorem ac_44 : aggCells Try.prog 44 = some none := by kernel_rfl
theorem ac_56 : aggCells Try.prog 56 = some none := by kernel_rfl
theorem ac_63 : aggCells Try.prog 63 = some none := by kernel_rfl
theorem ac_77 : aggCells Try.prog 77 = some (some 4) := by kernel_rfl
theorem ca_16 : callable Try.prog 16 = true := by kernel_rfl
theorem ca_17 : callable Try.prog 17 = true := by kernel_rfl
theorem fo_34_0 : fieldOff Try.prog 34 0 = some 0 := by kernel_rfl
theorem fo_34_1 : fieldOff Try.prog 34 1 = some 1 := by kernel_rfl
theorem fo_39_1 : fieldOff Try.prog 39 1 = some 1 := by kernel_rfl
theorem fo_39_2 : fieldOff Try.prog 39 2 = some 2 := by kernel_rfl
theorem fo_39_5 : fieldOff Try.prog 39 5 = some 7 := by kernel_rfl
theorem fo_49_0 : fieldOff Try.prog 49 0 = some 0 := by kernel_rfl
theorem fo_53_0 : fieldOff Try.prog 53 0 = some 0 := by kernel_rfl
theorem fo_65_5 : fieldOff Try.prog 65 5 = some 7 := by kernel_rfl
theorem pl_77 : places Try.prog 77 = some #[(0, 2), (2, 1), (3, 1)] := by kernel_rfl
theorem sb_34 : sizeBytes Try.prog 34 = some (6, 72) := by kernel_rfl
theorem so_60 : sliceOf Try.prog 60 = some (34, 6) := by kernel_rfl
theorem sz_77 : szOf Try.prog 77 = some 4 := by kernel_rfl
theorem zo_34 : zeroOf Try.prog 34 = some #[.int .i64 0, .int .u32 0, .int .u64 0, .int .i64 0, .slice none 0 0, .string ⟨#[]⟩] := by kernel_rfl
theorem zo_77 : zeroOf Try.prog 77 = some #[.int .u64 0, .int .i64 0, .int .i64 0, .int .u32 0] := by kernel_rfl
theorem zr_34_1 : zrow #[.int .i64 0, .int .u32 0, .int .u64 0, .int .i64 0, .slice none 0 0, .string ⟨#[]⟩] (1 * 6) = #[.int .i64 0, .int .u32 0, .int .u64 0, .int .i64 0, .slice none 0 0, .string ⟨#[]⟩] := by kernel_rfl
theorem zv_60 : zeroV Try.prog 60 = some (.slice none 0 0) := by kernel_rfl
end FM4
open FM4

theorem msend_spec (σ ρ : Heap) (rs : List Asr) (tb sb eb mb sc lb nb : Nat) (sp : Option Addr) (bs : List Nat) (M : MTr) (br : Int) (hbr : br = least M.bad) (sl : List (Who × Value)) (ml : List (Conf × Value)) (lal nal : List (Int × Value)) (N : Nat) (hM : MIs ρ 39 bs M sl ml lal nal N) (hN : N < 100000) (hS : Stars (pt tb (.cells (monC sb eb mb sp M.stays.length sc lb nb br M.len M.at_ M.rule) 53 (0, 0)) :: rowsA 34 6 encSent Msg.cells sb M.sends :: mapA encI lb lal :: mapA encI nb nal :: mstsA bs M.stays :: ro ρ :: rs) σ) (e : Ev) (hok : e.ok ρ) : Does Try.prog 14 #[.pointer (some ⟨tb, 0, none⟩), e.v] σ (fun v τ => ∃ br', Stars (pt tb (.cells (monC sb eb mb sp M.stays.length sc lb nb br' M.len M.at_ M.rule) 53 (0, 0)) :: rowsA 34 6 encSent Msg.cells sb (M.send e).sends :: mapA encI lb lal :: mapA encI nb nal :: mstsA bs M.stays :: ro ρ :: rs) τ ∧ br' = least (M.send e).bad ∧ MIs ρ 39 bs (M.send e) sl ml lal nal (N + 1)) := by
  refine Does.enter (n := 46) (l := [(0, _), (1, _)]) Try.func14 rfl rfl (by simp) rfl ?_
  refine St.seq ?_
  refine St.region rfl ?_
  refine Reg.x rfl rfl rfl (e_box rfl (cellsN_eq rfl) (fun b3 τ3 hb3 => ?_))
  replace hS : Stars (_ :: _ :: _ :: _ :: _ :: _ :: _ :: rs) _ := hS.fresh hb3
  refine Reg.done ?_
  refine St.keep [0, 1, 3] ?_
  show St _ _ _ [(3, _), (0, _), (1, _)] _ _ _
  replace hS : Stars (_ :: _ :: _ :: _ :: _ :: _ :: _ :: rs) _ := hS.top 6 rfl
  replace hS : Stars (_ :: _ :: _ :: _ :: _ :: _ :: _ :: rs) _ := hS.top 1 rfl
  obtain ⟨ρ3, hs3, h3, hS'⟩ := hS.roNew
  replace hS := hS'
  replace hS : Stars (_ :: _ :: _ :: _ :: _ :: _ :: rs) _ := hS.top 5 rfl
  replace hS : Stars (_ :: _ :: _ :: _ :: _ :: _ :: rs) _ := hS.top 5 rfl
  replace hS : Stars (_ :: _ :: _ :: _ :: _ :: _ :: rs) _ := hS.top 5 rfl
  replace hS : Stars (_ :: _ :: _ :: _ :: _ :: _ :: rs) _ := hS.top 5 rfl
  replace hS : Stars (_ :: _ :: _ :: _ :: _ :: _ :: rs) _ := hS.top 5 rfl
  refine St.seq ?_
  refine St.seq ?_
  refine St.region rfl ?_
  refine Reg.q rfl rfl rfl (q_fieldAddr fo_39_1 rfl rfl) ?_
  refine Reg.q rfl rfl rfl (q_load1 ac_3 rfl (hS.ro 5 rfl _ _ h3) rfl) ?_
  refine Reg.q rfl rfl rfl (q_fieldAddr fo_39_5 rfl rfl) ?_
  refine Reg.q rfl rfl rfl (q_fieldAddr fo_34_0 rfl rfl) ?_
  refine Reg.q rfl rfl rfl (q_load1 ac_3 rfl (hS.ro 5 rfl _ _ h3) rfl) ?_
  refine Reg.q rfl rfl rfl (q_ieq rfl rfl) ?_
  refine Reg.done ?_
  refine St.keep [3, 0, 1, 11] ?_
  show St _ _ _ [(11, _), (3, _), (0, _), (1, _)] _ _ _
  refine St.cond rfl (fun hc0 => ?_) (fun hc0 => ?_)
  · skip
    refine St.seq ?_
    refine St.region rfl ?_
    refine Reg.q rfl rfl rfl (q_fieldAddr fo_39_2 rfl rfl) ?_
    refine Reg.q rfl rfl rfl (q_loadA ac_30 rfl (hS.ro 5 rfl _ _ h3) (rowN_row rfl)) ?_
    refine Reg.q rfl rfl rfl (q_fieldAddr fo_39_5 rfl rfl) ?_
    refine Reg.q rfl rfl rfl (q_fieldAddr fo_34_0 rfl rfl) ?_
    refine Reg.q rfl rfl rfl (q_load1 ac_3 rfl (hS.ro 5 rfl _ _ h3) rfl) ?_
    refine Reg.q rfl rfl rfl (q_fieldAddr fo_39_5 rfl rfl) ?_
    refine Reg.q rfl rfl rfl (q_fieldAddr fo_34_1 rfl rfl) ?_
    refine Reg.q rfl rfl rfl (q_load1 ac_31 rfl (hS.ro 5 rfl _ _ h3) rfl) ?_
    refine Reg.q rfl rfl rfl (q_build rfl zo_77 pl_77 (fillN_fill rfl)) ?_
    refine Reg.x rfl rfl rfl (e_alloc zo_77 (fun b4 τ4 hb4 => ?_))
    replace hS : Stars (_ :: _ :: _ :: _ :: _ :: _ :: _ :: rs) _ := hS.fresh hb4
    refine Reg.no rfl rfl (e_store rfl rfl sz_77 rfl (hS.pt 0 rfl) (Nat.le_of_ble_eq_true rfl) rfl (storeN_row rfl) (fun τs2_10 hs2_10 hu2_10 => ?_))
    replace hS : Stars (_ :: _ :: _ :: _ :: _ :: _ :: _ :: rs) _ := (hS.top 0 rfl).ptU hu2_10 hs2_10
    refine Reg.done ?_
    refine St.keep [11, 3, 0, 1, 4] ?_
    show St _ _ _ [(4, _), (11, _), (3, _), (0, _), (1, _)] _ _ _
    replace hS : Stars (_ :: _ :: _ :: _ :: _ :: _ :: _ :: rs) _ := hS.top 2 rfl
    have hsl := (hM.sends (evSent e)).1
    obtain ⟨al2, p2, c2, hlk, hS'⟩ := rows_open hS (evSent e)
    replace hS := hS'
    refine St.draw0 [9, 11, 13] [(0, .w), (1, .w), (2, .w), (3, .w), (4, .r), (5, .r), (6, .w), (7, .r), (8, .x), (9, .x), (10, .w), (12, .w), (11, .x), (13, .x)] mixed (by kernel_rfl) rfl ?_
    refine Dr.w rfl rfl rfl rfl (q_move rfl) ?_
    refine Dr.w rfl rfl rfl rfl (q_nil rfl) ?_
    refine Dr.w rfl rfl rfl rfl (q_fieldAddr fo_53_0 rfl rfl) ?_
    refine Dr.w rfl rfl rfl rfl (q_fieldAddr fo_49_0 rfl rfl) ?_
    refine Dr.r rfl rfl rfl rfl (Sub.rfl' _) (q_load1 ac_44 rfl (hS.pt 4 rfl) rfl) ?_
    refine Dr.r rfl rfl rfl rfl (Sub.rfl' _) (q_loadA ac_77 rfl (hS.pt 3 rfl) (rowN_row rfl)) ?_
    refine Dr.w rfl rfl rfl rfl (q_fieldAddr fo_39_5 rfl rfl) ?_
    refine Dr.r rfl rfl rfl rfl (Sub.rfl' _) (q_loadA ac_34 rfl (hS.ro 8 rfl _ _ h3) (rowN_row rfl)) ?_
    refine Dr.x rfl rfl rfl rfl (e_buildSlice so_60 zo_34 zr_34_1 rfl rfl rfl (fillN_fill rfl) (fun b30 τ30 hb30 => ⟨.inr hb30.sub, ?_⟩))
    replace hS : Stars (_ :: _ :: _ :: _ :: _ :: _ :: _ :: _ :: _ :: _ :: rs) _ := hS.fresh hb30
    refine Dr.x rfl rfl rfl rfl (e_mapEntry Try.underlying44 key_77 zv_60 rfl (show _ = some (encSent (evSent e)) from rfl) (hS.map 2 rfl) (fun s31 τ31 hm31 hu31 => ⟨.inl rfl, ?_⟩))
    replace hS : Stars (_ :: _ :: _ :: _ :: _ :: _ :: _ :: _ :: _ :: _ :: rs) _ := (hS.top 2 rfl).mapEU hu31 hm31
    refine Dr.w rfl rfl rfl rfl (QOp.eq (v' := .slice p2 (M.sends (evSent e)).length c2) (q_extract rfl rfl) hlk) ?_
    refine Dr.w rfl rfl rfl rfl (q_extract rfl rfl) ?_
    refine Dr.x rfl rfl rfl rfl (e_append rfl Try.underlying60 Try.underlying60 sb_34 zo_34 rfl rfl rfl (hS.own 2 rfl) (Rd.lit (hS.pt 1 rfl) rfl) (.inl (by omega)) (allFlat_mem rfl) (by omega) (by omega) (fun b32 o32 c32 τ32 hf32 hu32 ho32 => ⟨.inl rfl, ?_⟩))
    replace hS : Stars (_ :: _ :: _ :: _ :: _ :: _ :: _ :: _ :: _ :: _ :: rs) _ := (hS.top 2 rfl).ownU hf32 hu32 ho32
    refine Dr.no rfl rfl rfl (e_entryStore rfl rfl rfl (hS.mapE 1 rfl) (fun τ3_13 hm3_13 hu3_13 => ⟨.inl rfl, ?_⟩))
    replace hS : Stars (_ :: _ :: _ :: _ :: _ :: _ :: _ :: _ :: _ :: _ :: rs) _ := (hS.top 1 rfl).mapUE hu3_13 hm3_13
    refine Dr.done ?_
    refine St.keep [4, 11, 3, 0, 1] ?_
    show St _ _ _ [(4, _), (11, _), (3, _), (0, _), (1, _)] _ _ _
    rw [put_put] at hS
    replace hS : Stars (_ :: _ :: _ :: _ :: _ :: _ :: _ :: _ :: _ :: _ :: rs) _ := hS.top 1 rfl
    have e1 : ((M.sends (evSent e)) ++ [e.m]).length = (M.sends (evSent e)).length + 1 := by simp
    have e2 : ((M.sends (evSent e)) ++ [e.m]).flatMap Msg.cells = (M.sends (evSent e)).flatMap Msg.cells ++ e.m.cells := by simp
    replace hS : Stars (ownA 34 6 (some ⟨b32, o32, none⟩) ((M.sends (evSent e)) ++ [e.m]).length c32 (((M.sends (evSent e)) ++ [e.m]).flatMap Msg.cells) :: _) _ := hS.imp fun h hx => by rw [e1, e2]; exact hx
    replace hS : Stars (_ :: _ :: _ :: _ :: _ :: _ :: _ :: _ :: _ :: _ :: rs) _ := hS.top 1 rfl
    replace hS : Stars (mapA encSent sb (put al2 (evSent e) (.slice (some ⟨b32, o32, none⟩) ((M.sends (evSent e)) ++ [e.m]).length c32)) :: _) _ := hS.imp fun h hx => by rw [e1]; exact hx
    replace hS : Stars (_ :: _ :: _ :: _ :: _ :: _ :: _ :: _ :: _ :: _ :: rs) _ := hS.top 3 rfl
    replace hS : Stars (_ :: _ :: _ :: _ :: _ :: _ :: _ :: _ :: _ :: _ :: rs) _ := hS.top 1 rfl
    replace hS : Stars (_ :: _ :: _ :: _ :: _ :: _ :: _ :: _ :: _ :: _ :: rs) _ := hS.top 2 rfl
    replace hS := rows_close hS
    replace hS : Stars (_ :: _ :: _ :: _ :: _ :: _ :: _ :: _ :: rs) _ := hS.top 2 rfl
    replace hS : Stars (_ :: _ :: _ :: _ :: _ :: _ :: _ :: _ :: rs) _ := hS.top 2 rfl
    replace hS := hS.drop.drop
    replace hS := rowsA_congr (g' := fun q => if q = evSent e then (M.sends (evSent e)) ++ [e.m] else M.sends q) (fun q => rfl) hS
    refine St.seq ?_
    refine St.region rfl ?_
    refine Reg.q rfl rfl rfl (q_move rfl) ?_
    refine Reg.q rfl rfl rfl (q_loadA ac_39 rfl (hS.ro 5 rfl _ _ h3) (rowN_row rfl)) ?_
    replace hS : Stars (_ :: _ :: _ :: _ :: _ :: _ :: rs) _ := hS.top 5 rfl
    replace hS : Stars (_ :: _ :: _ :: _ :: _ :: _ :: rs) _ := hS.top 5 rfl
    replace hS : Stars (_ :: _ :: _ :: _ :: _ :: _ :: rs) _ := hS.top 5 rfl
    replace hS : Stars (_ :: _ :: _ :: _ :: _ :: _ :: rs) _ := hS.top 5 rfl
    replace hS : Stars (_ :: _ :: _ :: _ :: _ :: _ :: rs) _ := hS.top 5 rfl
    refine Reg.x rfl rfl rfl (e_callF rfl rfl rfl ca_16 ((mstay_spec _ ρ3 _ _ _ _ _ _ _ _ _ _ _ _ _ _ _ hbr bs M sl ml lal nal N (hM.up hs3 (Nat.le_refl _)) hS e).mono fun v36 τ36 h36 => ?_))
    obtain ⟨br2, rfl, hS, hbr⟩ := h36
    refine Reg.q rfl rfl rfl (q_assign rfl) ?_
    refine Reg.done ?_
    refine St.keep [4, 11, 3, 0, 1, 5] ?_
    show St _ _ _ [(5, _), (4, _), (11, _), (3, _), (0, _), (1, _)] _ _ _
    refine St.seq ?_
    refine St.region rfl ?_
    refine Reg.q rfl rfl rfl (q_move rfl) ?_
    refine Reg.q rfl rfl rfl (QOp.eq (v' := .bool (M.stayAt e).isSome) (q_pnen Try.underlying56 rfl rfl) (by show Value.bool (!_) = _; rw [stay_none hM e]; cases M.stayAt e <;> rfl)) ?_
    refine Reg.done ?_
    refine St.keep [5, 4, 11, 3, 0, 1, 38] ?_
    show St _ _ _ [(38, _), (5, _), (4, _), (11, _), (3, _), (0, _), (1, _)] _ _ _
    refine St.cond rfl (fun hc1 => ?_) (fun hc1 => ?_)
    · obtain ⟨k, s, bk, hse, hs, hbk⟩ := stay_get hM e hc1
      obtain ⟨a0, c0, a1, c1, cb, cl, hst, _, _, _, _⟩ := msts_at hS (k := 3) rfl hbk hs
      have e9 : blk ((M.stayAt e).bind fun x => bs[x.1]?) = .pointer (some ⟨bk, 0, none⟩) := by rw [hse]; show blk (bs[k]?) = _; rw [hbk]; rfl
      rw [e9]
      refine St.region rfl ?_
      refine Reg.q rfl rfl rfl (q_move rfl) ?_
      refine Reg.q rfl rfl rfl (q_move rfl) ?_
      refine Reg.q rfl rfl rfl (q_nil rfl) ?_
      refine Reg.q rfl rfl rfl (q_fieldAddr fo_65_5 rfl rfl) ?_
      refine Reg.q rfl rfl rfl (q_load1 ac_63 rfl hst rfl) ?_
      refine Reg.q rfl rfl rfl (QOp.eq (v' := .bool s.trans.isSome) (q_pnen Try.underlying63 rfl rfl) (by show _ = Value.bool _; cases s.trans <;> rfl)) ?_
      refine Reg.x rfl rfl rfl (e_callF rfl rfl rfl ca_17 ((mbreaks_spec _ _ _ _ _ _ _ _ _ _ _ _ _ _ _ hS _ _).mono fun v45 τ45 h45 => ?_))
      replace hS := h45
      replace hbr := least_brk s.trans.isSome hbr (show (1 : Int) ≤ 1 by decide) (by decide)
      refine Reg.done ?_
      refine St.keep [38, 5, 4, 11, 3, 0, 1] ?_
      show St _ _ _ [(38, _), (5, _), (4, _), (11, _), (3, _), (0, _), (1, _)] _ _ _
      refine St.fin Try.func14 .nil (Sub.rfl' _) ?_
      replace hS : Stars (_ :: _ :: _ :: _ :: _ :: _ :: rs) _ := hS.top 4 rfl
      replace hS : Stars (ro ρ :: _) _ := hS.imp fun h hx => hs3.trans hx
      replace hS : Stars (_ :: _ :: _ :: _ :: _ :: _ :: rs) _ := hS.top 4 rfl
      replace hS : Stars (_ :: _ :: _ :: _ :: _ :: _ :: rs) _ := hS.top 4 rfl
      replace hS : Stars (_ :: _ :: _ :: _ :: _ :: _ :: rs) _ := hS.top 4 rfl
      replace hS : Stars (_ :: _ :: _ :: _ :: _ :: _ :: rs) _ := hS.top 5 rfl
      replace hS : Stars (_ :: _ :: _ :: _ :: _ :: _ :: rs) _ := hS.top 5 rfl
      obtain ⟨r1, r2, r3, r4, r5, r6, r7, r8, r9⟩ := msend_rest M e
      refine ⟨_, ?_, hbr.trans (least_congr fun q => by rw [msend_bad, hse]; simp [Bool.or_assoc]), hM.send e hok.1⟩
      rw [r9]
      rw [if_pos hc0]; exact hS
    · have hse : M.stayAt e = none := by cases h : M.stayAt e with | none => rfl | some x => rw [h] at hc1; cases hc1
      refine St.skip ?_
      refine St.fin Try.func14 .nil (Sub.rfl' _) ?_
      replace hS : Stars (_ :: _ :: _ :: _ :: _ :: _ :: rs) _ := hS.top 4 rfl
      replace hS : Stars (ro ρ :: _) _ := hS.imp fun h hx => hs3.trans hx
      replace hS : Stars (_ :: _ :: _ :: _ :: _ :: _ :: rs) _ := hS.top 4 rfl
      replace hS : Stars (_ :: _ :: _ :: _ :: _ :: _ :: rs) _ := hS.top 4 rfl
      replace hS : Stars (_ :: _ :: _ :: _ :: _ :: _ :: rs) _ := hS.top 4 rfl
      replace hS : Stars (_ :: _ :: _ :: _ :: _ :: _ :: rs) _ := hS.top 5 rfl
      replace hS : Stars (_ :: _ :: _ :: _ :: _ :: _ :: rs) _ := hS.top 5 rfl
      obtain ⟨r1, r2, r3, r4, r5, r6, r7, r8, r9⟩ := msend_rest M e
      refine ⟨_, ?_, hbr.trans (least_congr fun q => by rw [msend_bad, hse]; simp [Bool.or_assoc]), hM.send e hok.1⟩
      rw [r9]
      rw [if_pos hc0]; exact hS
  · skip
    refine St.skip ?_
    refine St.seq ?_
    refine St.region rfl ?_
    refine Reg.q rfl rfl rfl (q_move rfl) ?_
    refine Reg.q rfl rfl rfl (q_loadA ac_39 rfl (hS.ro 5 rfl _ _ h3) (rowN_row rfl)) ?_
    replace hS : Stars (_ :: _ :: _ :: _ :: _ :: _ :: rs) _ := hS.top 5 rfl
    replace hS : Stars (_ :: _ :: _ :: _ :: _ :: _ :: rs) _ := hS.top 5 rfl
    replace hS : Stars (_ :: _ :: _ :: _ :: _ :: _ :: rs) _ := hS.top 5 rfl
    replace hS : Stars (_ :: _ :: _ :: _ :: _ :: _ :: rs) _ := hS.top 5 rfl
    replace hS : Stars (_ :: _ :: _ :: _ :: _ :: _ :: rs) _ := hS.top 4 rfl
    refine Reg.x rfl rfl rfl (e_callF rfl rfl rfl ca_16 ((mstay_spec _ ρ3 _ _ _ _ _ _ _ _ _ _ _ _ _ _ _ hbr bs M sl ml lal nal N (hM.up hs3 (Nat.le_refl _)) hS e).mono fun v36 τ36 h36 => ?_))
    obtain ⟨br2, rfl, hS, hbr⟩ := h36
    refine Reg.q rfl rfl rfl (q_assign rfl) ?_
    refine Reg.done ?_
    refine St.keep [11, 3, 0, 1, 5] ?_
    show St _ _ _ [(5, _), (11, _), (3, _), (0, _), (1, _)] _ _ _
    refine St.seq ?_
    refine St.region rfl ?_
    refine Reg.q rfl rfl rfl (q_move rfl) ?_
    refine Reg.q rfl rfl rfl (QOp.eq (v' := .bool (M.stayAt e).isSome) (q_pnen Try.underlying56 rfl rfl) (by show Value.bool (!_) = _; rw [stay_none hM e]; cases M.stayAt e <;> rfl)) ?_
    refine Reg.done ?_
    refine St.keep [5, 11, 3, 0, 1, 38] ?_
    show St _ _ _ [(38, _), (5, _), (11, _), (3, _), (0, _), (1, _)] _ _ _
    refine St.cond rfl (fun hc1 => ?_) (fun hc1 => ?_)
    · obtain ⟨k, s, bk, hse, hs, hbk⟩ := stay_get hM e hc1
      obtain ⟨a0, c0, a1, c1, cb, cl, hst, _, _, _, _⟩ := msts_at hS (k := 3) rfl hbk hs
      have e9 : blk ((M.stayAt e).bind fun x => bs[x.1]?) = .pointer (some ⟨bk, 0, none⟩) := by rw [hse]; show blk (bs[k]?) = _; rw [hbk]; rfl
      rw [e9]
      refine St.region rfl ?_
      refine Reg.q rfl rfl rfl (q_move rfl) ?_
      refine Reg.q rfl rfl rfl (q_move rfl) ?_
      refine Reg.q rfl rfl rfl (q_nil rfl) ?_
      refine Reg.q rfl rfl rfl (q_fieldAddr fo_65_5 rfl rfl) ?_
      refine Reg.q rfl rfl rfl (q_load1 ac_63 rfl hst rfl) ?_
      refine Reg.q rfl rfl rfl (QOp.eq (v' := .bool s.trans.isSome) (q_pnen Try.underlying63 rfl rfl) (by show _ = Value.bool _; cases s.trans <;> rfl)) ?_
      refine Reg.x rfl rfl rfl (e_callF rfl rfl rfl ca_17 ((mbreaks_spec _ _ _ _ _ _ _ _ _ _ _ _ _ _ _ hS _ _).mono fun v45 τ45 h45 => ?_))
      replace hS := h45
      replace hbr := least_brk s.trans.isSome hbr (show (1 : Int) ≤ 1 by decide) (by decide)
      refine Reg.done ?_
      refine St.keep [38, 5, 11, 3, 0, 1] ?_
      show St _ _ _ [(38, _), (5, _), (11, _), (3, _), (0, _), (1, _)] _ _ _
      refine St.fin Try.func14 .nil (Sub.rfl' _) ?_
      replace hS : Stars (_ :: _ :: _ :: _ :: _ :: _ :: rs) _ := hS.top 4 rfl
      replace hS : Stars (ro ρ :: _) _ := hS.imp fun h hx => hs3.trans hx
      replace hS : Stars (_ :: _ :: _ :: _ :: _ :: _ :: rs) _ := hS.top 4 rfl
      replace hS : Stars (_ :: _ :: _ :: _ :: _ :: _ :: rs) _ := hS.top 4 rfl
      replace hS : Stars (_ :: _ :: _ :: _ :: _ :: _ :: rs) _ := hS.top 4 rfl
      replace hS : Stars (_ :: _ :: _ :: _ :: _ :: _ :: rs) _ := hS.top 5 rfl
      replace hS : Stars (_ :: _ :: _ :: _ :: _ :: _ :: rs) _ := hS.top 5 rfl
      obtain ⟨r1, r2, r3, r4, r5, r6, r7, r8, r9⟩ := msend_rest M e
      refine ⟨_, ?_, hbr.trans (least_congr fun q => by rw [msend_bad, hse]; simp [Bool.or_assoc]), hM.send e hok.1⟩
      rw [r9]
      rw [if_neg (by rw [hc0]; simp)]; exact hS
    · have hse : M.stayAt e = none := by cases h : M.stayAt e with | none => rfl | some x => rw [h] at hc1; cases hc1
      refine St.skip ?_
      refine St.fin Try.func14 .nil (Sub.rfl' _) ?_
      replace hS : Stars (_ :: _ :: _ :: _ :: _ :: _ :: rs) _ := hS.top 4 rfl
      replace hS : Stars (ro ρ :: _) _ := hS.imp fun h hx => hs3.trans hx
      replace hS : Stars (_ :: _ :: _ :: _ :: _ :: _ :: rs) _ := hS.top 4 rfl
      replace hS : Stars (_ :: _ :: _ :: _ :: _ :: _ :: rs) _ := hS.top 4 rfl
      replace hS : Stars (_ :: _ :: _ :: _ :: _ :: _ :: rs) _ := hS.top 4 rfl
      replace hS : Stars (_ :: _ :: _ :: _ :: _ :: _ :: rs) _ := hS.top 5 rfl
      replace hS : Stars (_ :: _ :: _ :: _ :: _ :: _ :: rs) _ := hS.top 5 rfl
      obtain ⟨r1, r2, r3, r4, r5, r6, r7, r8, r9⟩ := msend_rest M e
      refine ⟨_, ?_, hbr.trans (least_congr fun q => by rw [msend_bad, hse]; simp [Bool.or_assoc]), hM.send e hok.1⟩
      rw [r9]
      rw [if_neg (by rw [hc0]; simp)]; exact hS
end Go.Proofs.Ytdgdbnkhmdncdaa
