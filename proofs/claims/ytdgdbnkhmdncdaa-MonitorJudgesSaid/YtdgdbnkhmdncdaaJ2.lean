/- The judge: EvRegular. -/
import Derived.Test.YtdgdbnkhmdncdaaJ1
import Derived.Test.YtdgdbnkhmdncdaaJl
set_option linter.unusedSectionVars false
set_option linter.unusedSimpArgs false
set_option linter.unusedVariables false
namespace Go.Proofs.Ytdgdbnkhmdncdaa
open Go.Gw Go.Cs
variable [Env]
set_option maxHeartbeats 4000000
namespace FJ2
theorem ac_28 : aggCells Try.prog 28 = some none := by kernel_rfl
theorem ac_3 : aggCells Try.prog 3 = some none := by kernel_rfl
theorem ac_30 : aggCells Try.prog 30 = some (some 2) := by kernel_rfl
theorem ac_59 : aggCells Try.prog 59 = some none := by kernel_rfl
theorem ac_63 : aggCells Try.prog 63 = some none := by kernel_rfl
theorem ac_68 : aggCells Try.prog 68 = some none := by kernel_rfl
theorem ac_90 : aggCells Try.prog 90 = some none := by kernel_rfl
theorem ca_22 : callable Try.prog 22 = true := by kernel_rfl
theorem ca_23 : callable Try.prog 23 = true := by kernel_rfl
theorem ca_24 : callable Try.prog 24 = true := by kernel_rfl
theorem ca_35 : callable Try.prog 35 = true := by kernel_rfl
theorem eg_30 : Try.prog.eqGuardType Try.prog.depth 30 = false := by kernel_rfl
theorem fo_101_0 : fieldOff Try.prog 101 0 = some 0 := by kernel_rfl
theorem fo_101_1 : fieldOff Try.prog 101 1 = some 1 := by kernel_rfl
theorem fo_101_11 : fieldOff Try.prog 101 11 = some 12 := by kernel_rfl
theorem fo_101_2 : fieldOff Try.prog 101 2 = some 3 := by kernel_rfl
theorem fo_101_4 : fieldOff Try.prog 101 4 = some 5 := by kernel_rfl
theorem fo_101_5 : fieldOff Try.prog 101 5 = some 6 := by kernel_rfl
theorem fo_39_1 : fieldOff Try.prog 39 1 = some 1 := by kernel_rfl
theorem fo_39_2 : fieldOff Try.prog 39 2 = some 2 := by kernel_rfl
theorem fo_39_3 : fieldOff Try.prog 39 3 = some 4 := by kernel_rfl
theorem fo_39_4 : fieldOff Try.prog 39 4 = some 6 := by kernel_rfl
theorem fo_70_1 : fieldOff Try.prog 70 1 = some 1 := by kernel_rfl
theorem pl_101 : places Try.prog 101 = some #[(0, 1), (1, 2), (3, 1), (4, 1), (5, 1), (6, 1), (7, 1), (8, 1), (9, 1), (10, 1), (11, 1), (12, 1)] := by kernel_rfl
theorem sb_90 : sizeBytes Try.prog 90 = some (1, 8) := by kernel_rfl
theorem se_68 : sliceElem Try.prog 68 = some 1 := by kernel_rfl
theorem so_68 : sliceOf Try.prog 68 = some (90, 1) := by kernel_rfl
theorem sz_63 : szOf Try.prog 63 = some 1 := by kernel_rfl
theorem sz_68 : szOf Try.prog 68 = some 1 := by kernel_rfl
theorem zo_101 : zeroOf Try.prog 101 = some #[.int .i64 0, .int .u64 0, .int .i64 0, .int .u64 0, .slice none 0 0, .pointer none, .pointer none, .pointer none, .int .i64 0, .pointer none, .slice none 0 0, .bool false, .pointer none] := by kernel_rfl
theorem zo_90 : zeroOf Try.prog 90 = some #[.pointer none] := by kernel_rfl
theorem zr_90_1 : zrow #[.pointer none] (1 * 1) = #[.pointer none] := by kernel_rfl
theorem zv_90 : zeroV Try.prog 90 = some (.pointer none) := by kernel_rfl
end FJ2
open FJ2

theorem jreg_spec (i : Nat) (σ ρ : Heap) (rs : List Asr) (es : List Ev) (p : Option Addr) (n c : Nat) (hT : TraceIs ρ p es) (hes : es.length ≤ 100000) (tb mb nb sc : Nat) (sp : Option Addr) (bs : List Nat) (J : JTr) (al lal nal : List (Int × Value)) (hJ : JIs es bs J al lal nal i) (hS : Stars (pt tb (.cells (traceC p n c sp J.stays.length sc mb J.named) 70 (0, 0)) :: mapA encI mb al :: ownA 90 1 sp J.stays.length sc (bs.flatMap ptrC) :: staysA p bs J.stays :: mapA encI nb nal :: ro ρ :: rs) σ) (e : Ev) (hi : es[i]? = some e) : Does Try.prog 31 #[.pointer (some ⟨tb, 0, none⟩), evp p (some (i, e)), .bool (J.live e.proc), .map (some nb)] σ (fun v τ => ∃ al' sp' sc' b', Stars (pt tb (.cells (traceC p n c sp' (J.reg i e).stays.length sc' mb J.named) 70 (0, 0)) :: mapA encI mb al' :: ownA 90 1 sp' (J.reg i e).stays.length sc' ((bs ++ [b']).flatMap ptrC) :: staysA p (bs ++ [b']) (J.reg i e).stays :: mapA encI nb (put nal e.proc (.pointer (some ⟨b', 0, none⟩))) :: ro ρ :: rs) τ ∧ JIs es (bs ++ [b']) (J.reg i e) al' lal (put nal e.proc (.pointer (some ⟨b', 0, none⟩))) (i + 1)) := by
  refine Does.enter (n := 180) (l := [(0, _), (1, _), (2, _), (3, _)]) Try.func31 rfl rfl (by simp) rfl ?_
  obtain ⟨lb, lo, cs, TT, fz, rfl, hb, hlt, hr⟩ := hT.row hi
  have hlk := hJ.now.get e.proc
  obtain ⟨bq, hbq⟩ : ∃ bq, (J.now e.proc).bind (bs[·]?) = bq := ⟨_, rfl⟩
  rw [hbq] at hlk
  have hbad := hJ.bad
  have hfew := hJ.few.1
  refine St.seq ?_
  refine St.draw0 [19] [(0, .w), (1, .w), (2, .w), (3, .r), (4, .w), (5, .w), (6, .w), (7, .r), (8, .w), (9, .w), (10, .w), (11, .r), (12, .w), (13, .w), (14, .w), (15, .w), (16, .r), (17, .r), (18, .w), (19, .x), (20, .w)] mixed (by kernel_rfl) rfl ?_
  refine Dr.w rfl rfl rfl rfl (q_move rfl) ?_
  refine Dr.w rfl rfl rfl rfl (q_nil rfl) ?_
  refine Dr.w rfl rfl rfl rfl (q_fieldAddr fo_39_1 rfl rfl) ?_
  refine Dr.r rfl rfl rfl rfl (Sub.rfl' _) (q_load1 ac_3 rfl (hS.ro 5 rfl _ _ hb) (row_cell hr 1 rfl)) ?_
  refine Dr.w rfl rfl rfl rfl (q_move rfl) ?_
  refine Dr.w rfl rfl rfl rfl (q_nil rfl) ?_
  refine Dr.w rfl rfl rfl rfl (q_fieldAddr fo_39_2 rfl rfl) ?_
  refine Dr.r rfl rfl rfl rfl (Sub.rfl' _) (q_loadA ac_30 rfl (hS.ro 5 rfl _ _ hb) (row_partN hr 2 2 (by decide) rfl rfl)) ?_
  refine Dr.w rfl rfl rfl rfl (q_move rfl) ?_
  refine Dr.w rfl rfl rfl rfl (q_nil rfl) ?_
  refine Dr.w rfl rfl rfl rfl (q_fieldAddr fo_39_4 rfl rfl) ?_
  refine Dr.r rfl rfl rfl rfl (Sub.rfl' _) (q_load1 ac_28 rfl (hS.ro 5 rfl _ _ hb) (row_cell hr 6 rfl)) ?_
  refine Dr.w rfl rfl rfl rfl (q_move rfl) ?_
  refine Dr.w rfl rfl rfl rfl (q_move rfl) ?_
  refine Dr.w rfl rfl rfl rfl (q_nil rfl) ?_
  refine Dr.w rfl rfl rfl rfl (q_fieldAddr fo_39_1 rfl rfl) ?_
  refine Dr.r rfl rfl rfl rfl (Sub.rfl' _) (q_load1 ac_3 rfl (hS.ro 5 rfl _ _ hb) (row_cell hr 1 rfl)) ?_
  refine Dr.r rfl rfl rfl rfl (Sub.rfl' _) (q_lookup Try.underlying87 key_3 zv_90 rfl rfl (hS.map 4 rfl) hlk) ?_
  refine Dr.w rfl rfl rfl rfl (q_build rfl zo_101 pl_101 (fillN_fill rfl)) ?_
  refine Dr.x rfl rfl rfl rfl (e_box rfl (cellsN_eq rfl) (fun b31 τ31 hb31 => ⟨.inl rfl, ?_⟩))
  replace hS : Stars (_ :: _ :: _ :: _ :: _ :: _ :: _ :: rs) _ := hS.fresh hb31
  refine Dr.w rfl rfl rfl rfl (q_assign rfl) ?_
  refine Dr.done ?_
  refine St.keep [0, 1, 2, 3, 8] ?_
  show St _ _ _ [(8, _), (0, _), (1, _), (2, _), (3, _)] _ _ _
  refine St.seq ?_
  refine St.draw0 [12, 15] [(0, .w), (1, .w), (2, .w), (3, .w), (4, .w), (5, .w), (6, .w), (7, .r), (8, .w), (9, .w), (10, .w), (11, .r), (12, .x), (13, .w), (14, .w), (15, .x)] mixed (by kernel_rfl) rfl ?_
  refine Dr.w rfl rfl rfl rfl (q_move rfl) ?_
  refine Dr.w rfl rfl rfl rfl (q_move rfl) ?_
  refine Dr.w rfl rfl rfl rfl (q_not rfl) ?_
  refine Dr.w rfl rfl rfl rfl (q_move rfl) ?_
  refine Dr.joinv 46 (.bool (!J.live e.proc || !has e.mem e.proc)) 11 [8, 0, 1, 2, 3, 32, 33, 34] (fun hk1_14 => ?_) ?_
  · skip
    refine Dr.split (d := 35) rfl (fun hg35 => ?_) (fun hg35 => ?_)
    · skip
      refine Dr.skip rfl rfl rfl rfl ?_
      refine Dr.skip rfl rfl rfl rfl ?_
      refine Dr.skip rfl rfl rfl rfl ?_
      refine Dr.skip rfl rfl rfl rfl ?_
      refine Dr.skip rfl rfl rfl rfl ?_
      refine Dr.skip rfl rfl rfl rfl ?_
      refine Dr.skip rfl rfl rfl rfl ?_
      refine Dr.skip rfl rfl rfl rfl ?_
      refine Dr.skip rfl rfl rfl rfl ?_
      refine Dr.skip rfl rfl rfl rfl ?_
      refine Dr.w rfl rfl rfl rfl (q_pickT rfl rfl) ?_
      exact Dr.meet 12 [8, 0, 1, 2, 3, 32, 33, 34] hk1_14 rfl (by simp only [hg35, Bool.true_or, Bool.false_or, Bool.true_and, Bool.false_and, Bool.not_true, Bool.not_false]) rfl rfl
    · skip
      refine Dr.w rfl rfl rfl rfl (q_move rfl) ?_
      refine Dr.w rfl rfl rfl rfl (q_nil rfl) ?_
      refine Dr.w rfl rfl rfl rfl (q_fieldAddr fo_101_2 rfl rfl) ?_
      refine Dr.r rfl rfl rfl rfl (Sub.rfl' _) (q_load1 ac_59 rfl (hS.pt 0 rfl) rfl) ?_
      refine Dr.w rfl rfl rfl rfl (q_move rfl) ?_
      refine Dr.w rfl rfl rfl rfl (q_nil rfl) ?_
      refine Dr.w rfl rfl rfl rfl (q_fieldAddr fo_39_1 rfl rfl) ?_
      refine Dr.r rfl rfl rfl rfl (Sub.rfl' _) (q_load1 ac_3 rfl (hS.ro 6 rfl _ _ hb) (row_cell hr 1 rfl)) ?_
      refine Dr.x rfl rfl rfl rfl (e_callF rfl rfl rfl ca_22 ((has_spec _ _ _).mono fun v44 τ44 h44 => ?_))
      obtain ⟨rfl, rfl⟩ := h44
      refine ⟨.inl rfl, ?_⟩
      refine Dr.w rfl rfl rfl rfl (q_not rfl) ?_
      refine Dr.w rfl rfl rfl rfl (q_pickF rfl rfl) ?_
      exact Dr.meet 12 [8, 0, 1, 2, 3, 32, 33, 34] hk1_14 rfl (by simp only [hg35, Bool.true_or, Bool.false_or, Bool.true_and, Bool.false_and, Bool.not_true, Bool.not_false]) rfl rfl
  · skip
    replace hS : Stars (_ :: _ :: _ :: _ :: _ :: _ :: _ :: rs) _ := hS.top 2 rfl
    replace hS : Stars (_ :: _ :: _ :: _ :: _ :: _ :: _ :: rs) _ := hS.top 2 rfl
    refine Dr.x rfl rfl rfl rfl (e_callF rfl rfl rfl ca_35 ((jbreaks_spec _ _ _ _ _ _ _ _ hS _ _).mono fun v47 τ47 h47 => ?_))
    replace hS := h47
    replace hbad := hbad.brk 1 (!J.live e.proc || !has e.mem e.proc)
    refine ⟨.inl rfl, ?_⟩
    refine Dr.done ?_
    refine St.keep [8, 0, 1, 2, 3] ?_
    show St _ _ _ [(8, _), (0, _), (1, _), (2, _), (3, _)] _ _ _
    refine St.seq ?_
    refine St.seq ?_
    refine St.region rfl ?_
    refine Reg.q rfl rfl rfl (q_move rfl) ?_
    refine Reg.q rfl rfl rfl (q_nil rfl) ?_
    refine Reg.q rfl rfl rfl (q_fieldAddr fo_70_1 rfl rfl) ?_
    refine Reg.q rfl rfl rfl (q_load1 ac_68 rfl (hS.pt 0 rfl) rfl) ?_
    refine Reg.q rfl rfl rfl (q_lenS rfl se_68 rfl) ?_
    refine Reg.q rfl rfl rfl (q_move rfl) ?_
    refine Reg.done ?_
    refine St.keep [8, 0, 1, 2, 3, 51, 52, 53] ?_
    show St _ _ _ [(53, _), (52, _), (51, _), (8, _), (0, _), (1, _), (2, _), (3, _)] _ _ _
    refine St.block ?_
    refine St.loopw (Y := Nat × List (Int × Value)) (fun y => [(53, .int .i64 (y.1 : Nat))]) [52, 51, 8, 0, 1, 2, 3] (fun y τ => Stars (pt tb (.cells (traceC (some ⟨lb, lo, none⟩) n c sp J.stays.length sc mb J.named) 70 (0, 0)) :: mapA encI mb y.2 :: pt b31 (.cells #[.int .i64 e.proc, .int .u64 e.conf.1, .int .i64 e.conf.2, .int .u64 e.mem, .slice none 0 0, .pointer none, .pointer none, .pointer none, .int .i64 0, .pointer none, .slice none 0 0, .bool false, blk bq] 101 (0, 0)) :: ownA 90 1 sp J.stays.length sc (bs.flatMap ptrC) :: staysA (some ⟨lb, lo, none⟩) bs J.stays :: mapA encI nb nal :: ro ρ :: rs) τ ∧ y.1 ≤ J.stays.length ∧ BadIs y.2 (fun q => (J.bad q || (q == 1 && (!J.live e.proc || !has e.mem e.proc))) || (q == 1 && (J.stays.take y.1).any fun o => o.conf == e.conf && (o.mem != e.mem || o.proc == e.proc)))) (fun y => J.stays.length - y.1) ((0, _)) rfl (⟨hS, Nat.zero_le _, hbad.congr (fun q => by simp)⟩) ?_
    intro ⟨j, al1⟩ τ ⟨hS, hj, hbad⟩ back
    simp only [] at hj hbad
    show St _ _ _ [(53, _), (52, _), (51, _), (8, _), (0, _), (1, _), (2, _), (3, _)] _ _ _
    refine St.seq ?_
    refine St.region rfl ?_
    refine Reg.q rfl rfl rfl (q_lt rfl rfl) ?_
    refine Reg.done ?_
    refine St.keep [53, 52, 51, 8, 0, 1, 2, 3, 54] ?_
    show St _ _ _ [(54, _), (53, _), (52, _), (51, _), (8, _), (0, _), (1, _), (2, _), (3, _)] _ _ _
    refine St.seq ?_
    refine St.cond rfl (fun hc0 => ?_) (fun hc0 => ?_)
    · simp at hc0
      obtain ⟨o, ho⟩ : ∃ o, J.stays[j]? = some o := ⟨_, List.getElem?_eq_getElem hc0⟩
      obtain ⟨b, hbj⟩ : ∃ b, bs[j]? = some b := ⟨_, List.getElem?_eq_getElem (by rw [hJ.len]; exact hc0)⟩
      obtain ⟨gp, gc, up, uc, hst, _⟩ := stays_at hS (k := 4) rfl hbj ho
      obtain ⟨b1, o1, cs1, T1, f1, rfl, hb1, hl1, hr1⟩ := Rd.row ptrC_len (by decide) (hS.own 3 rfl).rd hbj
      refine St.skip ?_
      refine St.seq ?_
      refine St.block ?_
      refine St.seq ?_
      refine St.region rfl ?_
      refine Reg.q rfl rfl rfl (q_indexAt se_68 rfl rfl rfl (by omega) rfl) ?_
      refine Reg.q rfl rfl rfl (q_load1 ac_90 rfl hb1 (row_cell hr1 0 rfl)) ?_
      refine Reg.q rfl rfl rfl (q_assign rfl) ?_
      refine Reg.done ?_
      refine St.keep [54, 53, 52, 51, 8, 0, 1, 2, 3, 10] ?_
      show St _ _ _ [(10, _), (54, _), (53, _), (52, _), (51, _), (8, _), (0, _), (1, _), (2, _), (3, _)] _ _ _
      refine St.draw0 [32] [(0, .w), (1, .w), (2, .w), (3, .w), (4, .r), (5, .w), (6, .w), (7, .w), (8, .r), (9, .w), (10, .w), (11, .w), (12, .w), (13, .w), (14, .r), (15, .w), (16, .w), (17, .w), (18, .r), (19, .w), (20, .w), (21, .w), (22, .w), (23, .w), (24, .r), (25, .w), (26, .w), (27, .w), (28, .r), (29, .w), (30, .w), (31, .w), (32, .x)] mixed (by kernel_rfl) rfl ?_
      refine Dr.w rfl rfl rfl rfl (q_move rfl) ?_
      refine Dr.w rfl rfl rfl rfl (q_move rfl) ?_
      refine Dr.w rfl rfl rfl rfl (q_nil rfl) ?_
      refine Dr.w rfl rfl rfl rfl (q_fieldAddr fo_101_1 rfl rfl) ?_
      refine Dr.r rfl rfl rfl rfl (Sub.rfl' _) (q_loadA ac_30 rfl hst (rowN_row rfl)) ?_
      refine Dr.w rfl rfl rfl rfl (q_move rfl) ?_
      refine Dr.w rfl rfl rfl rfl (q_nil rfl) ?_
      refine Dr.w rfl rfl rfl rfl (q_fieldAddr fo_39_2 rfl rfl) ?_
      refine Dr.r rfl rfl rfl rfl (Sub.rfl' _) (q_loadA ac_30 rfl (hS.ro 6 rfl _ _ hb) (row_partN hr 2 2 (by decide) rfl rfl)) ?_
      refine Dr.w rfl rfl rfl rfl (q_aeq rfl rfl eg_30 (eq_30 o.conf e.conf)) ?_
      refine Dr.w rfl rfl rfl rfl (q_move rfl) ?_
      refine Dr.joinv 88 (.bool (o.conf == e.conf && (o.mem != e.mem || o.proc == e.proc))) 21 [10, 54, 53, 52, 51, 8, 0, 1, 2, 3, 57, 58, 59, 60, 61, 62, 63, 64, 65, 66] (fun hk5_31 => ?_) ?_
      · skip
        refine Dr.split (d := 67) rfl (fun hg67 => ?_) (fun hg67 => ?_)
        · skip
          refine Dr.w rfl rfl rfl rfl (q_move rfl) ?_
          refine Dr.w rfl rfl rfl rfl (q_nil rfl) ?_
          refine Dr.w rfl rfl rfl rfl (q_fieldAddr fo_101_2 rfl rfl) ?_
          refine Dr.r rfl rfl rfl rfl (Sub.rfl' _) (q_load1 ac_59 rfl hst rfl) ?_
          refine Dr.w rfl rfl rfl rfl (q_move rfl) ?_
          refine Dr.w rfl rfl rfl rfl (q_nil rfl) ?_
          refine Dr.w rfl rfl rfl rfl (q_fieldAddr fo_101_2 rfl rfl) ?_
          refine Dr.r rfl rfl rfl rfl (Sub.rfl' _) (q_load1 ac_59 rfl (hS.pt 2 rfl) rfl) ?_
          refine Dr.w rfl rfl rfl rfl (q_ine rfl rfl) ?_
          refine Dr.w rfl rfl rfl rfl (q_move rfl) ?_
          refine Dr.split (d := 77) rfl (fun hg77 => ?_) (fun hg77 => ?_)
          · skip
            refine Dr.skip rfl rfl rfl rfl ?_
            refine Dr.skip rfl rfl rfl rfl ?_
            refine Dr.skip rfl rfl rfl rfl ?_
            refine Dr.skip rfl rfl rfl rfl ?_
            refine Dr.skip rfl rfl rfl rfl ?_
            refine Dr.skip rfl rfl rfl rfl ?_
            refine Dr.skip rfl rfl rfl rfl ?_
            refine Dr.skip rfl rfl rfl rfl ?_
            refine Dr.skip rfl rfl rfl rfl ?_
            refine Dr.w rfl rfl rfl rfl (q_pickT rfl rfl) ?_
            refine Dr.w rfl rfl rfl rfl (q_pickT rfl rfl) ?_
            exact Dr.meet 23 [10, 54, 53, 52, 51, 8, 0, 1, 2, 3, 57, 58, 59, 60, 61, 62, 63, 64, 65, 66] hk5_31 rfl (by simp only [hg67, hg77, Bool.true_or, Bool.false_or, Bool.true_and, Bool.false_and, Bool.not_true, Bool.not_false]) rfl rfl
          · skip
            refine Dr.w rfl rfl rfl rfl (q_move rfl) ?_
            refine Dr.w rfl rfl rfl rfl (q_nil rfl) ?_
            refine Dr.w rfl rfl rfl rfl (q_fieldAddr fo_101_0 rfl rfl) ?_
            refine Dr.r rfl rfl rfl rfl (Sub.rfl' _) (q_load1 ac_3 rfl hst rfl) ?_
            refine Dr.w rfl rfl rfl rfl (q_move rfl) ?_
            refine Dr.w rfl rfl rfl rfl (q_nil rfl) ?_
            refine Dr.w rfl rfl rfl rfl (q_fieldAddr fo_39_1 rfl rfl) ?_
            refine Dr.r rfl rfl rfl rfl (Sub.rfl' _) (q_load1 ac_3 rfl (hS.ro 6 rfl _ _ hb) (row_cell hr 1 rfl)) ?_
            refine Dr.w rfl rfl rfl rfl (q_ieq rfl rfl) ?_
            refine Dr.w rfl rfl rfl rfl (q_pickF rfl rfl) ?_
            refine Dr.w rfl rfl rfl rfl (q_pickT rfl rfl) ?_
            exact Dr.meet 23 [10, 54, 53, 52, 51, 8, 0, 1, 2, 3, 57, 58, 59, 60, 61, 62, 63, 64, 65, 66] hk5_31 rfl (by simp only [hg67, hg77, Bool.true_or, Bool.false_or, Bool.true_and, Bool.false_and, Bool.not_true, Bool.not_false]) rfl rfl
        · skip
          refine Dr.skip rfl rfl rfl rfl ?_
          refine Dr.skip rfl rfl rfl rfl ?_
          refine Dr.skip rfl rfl rfl rfl ?_
          refine Dr.skip rfl rfl rfl rfl ?_
          refine Dr.skip rfl rfl rfl rfl ?_
          refine Dr.skip rfl rfl rfl rfl ?_
          refine Dr.skip rfl rfl rfl rfl ?_
          refine Dr.skip rfl rfl rfl rfl ?_
          refine Dr.skip rfl rfl rfl rfl ?_
          refine Dr.skip rfl rfl rfl rfl ?_
          refine Dr.skip rfl rfl rfl rfl ?_
          refine Dr.skip rfl rfl rfl rfl ?_
          refine Dr.skip rfl rfl rfl rfl ?_
          refine Dr.skip rfl rfl rfl rfl ?_
          refine Dr.skip rfl rfl rfl rfl ?_
          refine Dr.skip rfl rfl rfl rfl ?_
          refine Dr.skip rfl rfl rfl rfl ?_
          refine Dr.skip rfl rfl rfl rfl ?_
          refine Dr.skip rfl rfl rfl rfl ?_
          refine Dr.skip rfl rfl rfl rfl ?_
          refine Dr.w rfl rfl rfl rfl (q_pickF rfl rfl) ?_
          exact Dr.meet 22 [10, 54, 53, 52, 51, 8, 0, 1, 2, 3, 57, 58, 59, 60, 61, 62, 63, 64, 65, 66] hk5_31 rfl (by simp only [hg67, Bool.true_or, Bool.false_or, Bool.true_and, Bool.false_and, Bool.not_true, Bool.not_false]) rfl rfl
      · skip
        refine Dr.x rfl rfl rfl rfl (e_callF rfl rfl rfl ca_35 ((jbreaks_spec _ _ _ _ _ _ _ _ hS _ _).mono fun v89 τ89 h89 => ?_))
        replace hS := h89
        replace hbad := hbad.brk 1 (o.conf == e.conf && (o.mem != e.mem || o.proc == e.proc))
        refine ⟨.inl rfl, ?_⟩
        refine Dr.done ?_
        refine St.keep [10, 54, 53, 52, 51, 8, 0, 1, 2, 3] ?_
        show St _ _ _ [(10, _), (54, _), (53, _), (52, _), (51, _), (8, _), (0, _), (1, _), (2, _), (3, _)] _ _ _
        refine St.inBlock ?_
        refine St.region rfl ?_
        refine Reg.q rfl rfl rfl (q_add rfl rfl (inc64 (by omega))) ?_
        refine Reg.q rfl rfl rfl (q_move rfl) ?_
        refine Reg.done ?_
        refine St.keep [10, 54, 53, 52, 51, 8, 0, 1, 2, 3] ?_
        show St _ _ _ [(53, _), (10, _), (54, _), (53, _), (52, _), (51, _), (8, _), (0, _), (1, _), (2, _), (3, _)] _ _ _
        refine St.conv (SubL.list (by rfl)) (Sub.rfl' _) (back (j + 1, if o.conf == e.conf && (o.mem != e.mem || o.proc == e.proc) then put al1 1 (.bool true) else al1) _ ?_ ?_)
        · exact ⟨hS, by simp; omega, hbad.congr fun q => by simp only [List.take_add_one, ho, List.any_append, Option.toList_some, List.any_cons, List.any_nil, Bool.or_false]; generalize (q == 1) = z; cases z <;> simp [Bool.or_assoc]⟩
        · simp; omega
    · simp at hc0
      have hjl : j = J.stays.length := by omega
      subst hjl
      simp only [List.take_length] at hbad
      refine St.exit rfl ?_
      refine St.seq ?_
      refine St.seq ?_
      refine St.region rfl ?_
      refine Reg.q rfl rfl rfl (q_move rfl) ?_
      refine Reg.q rfl rfl rfl (q_nil rfl) ?_
      refine Reg.q rfl rfl rfl (q_fieldAddr fo_101_11 rfl rfl) ?_
      refine Reg.q rfl rfl rfl (q_load1 ac_90 rfl (hS.pt 2 rfl) rfl) ?_
      refine Reg.q rfl rfl rfl (q_assign rfl) ?_
      refine Reg.done ?_
      refine St.keep [54, 53, 52, 51, 8, 0, 1, 2, 3, 11] ?_
      show St _ _ _ [(11, _), (54, _), (53, _), (52, _), (51, _), (8, _), (0, _), (1, _), (2, _), (3, _)] _ _ _
      refine St.seq ?_
      refine St.region rfl ?_
      refine Reg.q rfl rfl rfl (q_move rfl) ?_
      refine Reg.q rfl rfl rfl (q_pnen Try.underlying90 rfl rfl) ?_
      refine Reg.done ?_
      refine St.keep [11, 54, 53, 52, 51, 8, 0, 1, 2, 3, 96] ?_
      show St _ _ _ [(96, _), (11, _), (54, _), (53, _), (52, _), (51, _), (8, _), (0, _), (1, _), (2, _), (3, _)] _ _ _
      refine St.cond rfl (fun hc1 => ?_) (fun hc1 => ?_)
      · obtain ⟨bk, rfl⟩ : ∃ bk, bq = some bk := by cases bq with | none => simp at hc1 | some bk => exact ⟨bk, rfl⟩
        obtain ⟨k, hk, hbk⟩ : ∃ k, J.now e.proc = some k ∧ bs[k]? = some bk := by
          cases hn : J.now e.proc with
          | none => rw [hn] at hbq; cases hbq
          | some k => rw [hn] at hbq; exact ⟨k, rfl, hbq⟩
        have hklt : k < J.stays.length := by rw [← hJ.len]; exact (List.getElem?_eq_some_iff.1 hbk).1
        obtain ⟨s, hs⟩ : ∃ s, J.stays[k]? = some s := ⟨_, List.getElem?_eq_getElem hklt⟩
        have hwf := hJ.wf s (List.mem_of_getElem? hs)
        obtain ⟨rs1, rs2⟩ := reg_some (i := i) hk hs
        obtain ⟨rr1, rr2, rr3⟩ := reg_rest J i e
        obtain ⟨s0, s1, s2, s3, s4, s5, s6, s7, s8, s9, s10, s11⟩ := s
        replace hS : Stars (_ :: _ :: _ :: _ :: _ :: _ :: _ :: rs) _ := hS.top 4 rfl
        obtain ⟨gp, gc, up, uc, hS'⟩ := stays_open hS hbk hs
        replace hS := hS'
        refine St.seq ?_
        refine St.region rfl ?_
        refine Reg.q rfl rfl rfl (q_move rfl) ?_
        refine Reg.q rfl rfl rfl (q_move rfl) ?_
        refine Reg.q rfl rfl rfl (q_nil rfl) ?_
        refine Reg.q rfl rfl rfl (q_fieldAddr fo_101_5 rfl rfl) ?_
        refine Reg.no rfl rfl (e_store rfl rfl sz_63 rfl (hS.pt 0 rfl) (Nat.le_of_ble_eq_true rfl) rfl (storeN_row rfl) (fun τs9_4 hs9_4 hu9_4 => ?_))
        replace hS : Stars (_ :: _ :: _ :: _ :: _ :: _ :: _ :: _ :: _ :: _ :: rs) _ := (hS.top 0 rfl).ptU hu9_4 hs9_4
        refine Reg.done ?_
        refine St.keep [96, 11, 54, 53, 52, 51, 8, 0, 1, 2, 3] ?_
        show St _ _ _ [(96, _), (11, _), (54, _), (53, _), (52, _), (51, _), (8, _), (0, _), (1, _), (2, _), (3, _)] _ _ _
        refine St.seq ?_
        refine St.draw0 [9, 11] [(0, .w), (1, .w), (2, .w), (3, .w), (4, .r), (5, .w), (6, .w), (7, .w), (8, .r), (9, .x), (10, .w), (11, .x)] mixed (by kernel_rfl) rfl ?_
        refine Dr.w rfl rfl rfl rfl (q_move rfl) ?_
        refine Dr.w rfl rfl rfl rfl (q_move rfl) ?_
        refine Dr.w rfl rfl rfl rfl (q_nil rfl) ?_
        refine Dr.w rfl rfl rfl rfl (q_fieldAddr fo_39_2 rfl rfl) ?_
        refine Dr.r rfl rfl rfl rfl (Sub.rfl' _) (q_loadA ac_30 rfl (hS.ro 9 rfl _ _ hb) (row_partN hr 2 2 (by decide) rfl rfl)) ?_
        refine Dr.w rfl rfl rfl rfl (q_move rfl) ?_
        refine Dr.w rfl rfl rfl rfl (q_nil rfl) ?_
        refine Dr.w rfl rfl rfl rfl (q_fieldAddr fo_101_1 rfl rfl) ?_
        refine Dr.r rfl rfl rfl rfl (Sub.rfl' _) (q_loadA ac_30 rfl (hS.pt 0 rfl) (rowN_row rfl)) ?_
        refine Dr.x rfl rfl rfl rfl (e_callF rfl rfl rfl ca_23 ((confs_spec _ _ _ _ _).mono fun v110 τ110 h110 => ?_))
        obtain ⟨rfl, rfl⟩ := h110
        refine ⟨.inl rfl, ?_⟩
        refine Dr.w rfl rfl rfl rfl (q_le rfl rfl) ?_
        replace hS : Stars (_ :: _ :: _ :: _ :: _ :: _ :: _ :: _ :: _ :: _ :: rs) _ := hS.top 5 rfl
        replace hS : Stars (_ :: _ :: _ :: _ :: _ :: _ :: _ :: _ :: _ :: _ :: rs) _ := hS.top 5 rfl
        refine Dr.x rfl rfl rfl rfl (e_callF rfl rfl rfl ca_35 ((jbreaks_spec _ _ _ _ _ _ _ _ hS _ _).mono fun v112 τ112 h112 => ?_))
        replace hS := h112
        replace hbad := hbad.brk 1 (confLe e.conf s1)
        refine ⟨.inl rfl, ?_⟩
        refine Dr.done ?_
        refine St.keep [96, 11, 54, 53, 52, 51, 8, 0, 1, 2, 3] ?_
        show St _ _ _ [(96, _), (11, _), (54, _), (53, _), (52, _), (51, _), (8, _), (0, _), (1, _), (2, _), (3, _)] _ _ _
        refine St.draw0 [47, 50] [(0, .w), (1, .w), (2, .w), (3, .w), (4, .r), (5, .w), (6, .w), (7, .w), (8, .w), (9, .w), (10, .r), (11, .w), (12, .w), (13, .r), (14, .w), (15, .w), (16, .w), (17, .r), (18, .w), (19, .w), (20, .w), (21, .w), (22, .w), (23, .w), (24, .r), (25, .w), (26, .w), (27, .r), (28, .w), (29, .w), (30, .w), (31, .r), (32, .x), (33, .w), (34, .w), (35, .w), (36, .w), (37, .w), (38, .w), (39, .r), (40, .w), (41, .w), (42, .r), (43, .w), (44, .w), (45, .w), (46, .r), (47, .x), (48, .w), (49, .w), (50, .x)] mixed (by kernel_rfl) rfl ?_
        refine Dr.w rfl rfl rfl rfl (q_move rfl) ?_
        refine Dr.w rfl rfl rfl rfl (q_move rfl) ?_
        refine Dr.w rfl rfl rfl rfl (q_nil rfl) ?_
        refine Dr.w rfl rfl rfl rfl (q_fieldAddr fo_101_4 rfl rfl) ?_
        refine Dr.r rfl rfl rfl rfl (Sub.rfl' _) (q_load1 ac_63 rfl (hS.pt 2 rfl) rfl) ?_
        refine Dr.w rfl rfl rfl rfl (q_peqn Try.underlying63 rfl rfl) ?_
        refine Dr.w rfl rfl rfl rfl (q_move rfl) ?_
        refine Dr.joinv 162 (.bool (transBad s4 e)) 43 [96, 11, 54, 53, 52, 51, 8, 0, 1, 2, 3, 113, 114, 115, 116, 117, 118] (fun hk11_49 => ?_) ?_
        · skip
          refine Dr.split (d := 119) rfl (fun hg119 => ?_) (fun hg119 => ?_)
          · skip
            refine Dr.skip rfl rfl rfl rfl ?_
            refine Dr.skip rfl rfl rfl rfl ?_
            refine Dr.skip rfl rfl rfl rfl ?_
            refine Dr.skip rfl rfl rfl rfl ?_
            refine Dr.skip rfl rfl rfl rfl ?_
            refine Dr.skip rfl rfl rfl rfl ?_
            refine Dr.skip rfl rfl rfl rfl ?_
            refine Dr.skip rfl rfl rfl rfl ?_
            refine Dr.skip rfl rfl rfl rfl ?_
            refine Dr.skip rfl rfl rfl rfl ?_
            refine Dr.skip rfl rfl rfl rfl ?_
            refine Dr.skip rfl rfl rfl rfl ?_
            refine Dr.w rfl rfl rfl rfl (q_pickT rfl rfl) ?_
            refine Dr.w rfl rfl rfl rfl (q_move rfl) ?_
            refine Dr.skip rfl rfl rfl rfl ?_
            refine Dr.skip rfl rfl rfl rfl ?_
            refine Dr.skip rfl rfl rfl rfl ?_
            refine Dr.skip rfl rfl rfl rfl ?_
            refine Dr.skip rfl rfl rfl rfl ?_
            refine Dr.skip rfl rfl rfl rfl ?_
            refine Dr.skip rfl rfl rfl rfl ?_
            refine Dr.skip rfl rfl rfl rfl ?_
            refine Dr.skip rfl rfl rfl rfl ?_
            refine Dr.skip rfl rfl rfl rfl ?_
            refine Dr.skip rfl rfl rfl rfl ?_
            refine Dr.skip rfl rfl rfl rfl ?_
            refine Dr.skip rfl rfl rfl rfl ?_
            refine Dr.w rfl rfl rfl rfl (q_pickT rfl rfl) ?_
            refine Dr.w rfl rfl rfl rfl (q_move rfl) ?_
            refine Dr.skip rfl rfl rfl rfl ?_
            refine Dr.skip rfl rfl rfl rfl ?_
            refine Dr.skip rfl rfl rfl rfl ?_
            refine Dr.skip rfl rfl rfl rfl ?_
            refine Dr.skip rfl rfl rfl rfl ?_
            refine Dr.skip rfl rfl rfl rfl ?_
            refine Dr.skip rfl rfl rfl rfl ?_
            refine Dr.skip rfl rfl rfl rfl ?_
            refine Dr.skip rfl rfl rfl rfl ?_
            refine Dr.skip rfl rfl rfl rfl ?_
            refine Dr.skip rfl rfl rfl rfl ?_
            refine Dr.skip rfl rfl rfl rfl ?_
            refine Dr.skip rfl rfl rfl rfl ?_
            refine Dr.w rfl rfl rfl rfl (q_pickT rfl rfl) ?_
            exact Dr.meet 44 [96, 11, 54, 53, 52, 51, 8, 0, 1, 2, 3, 113, 114, 115, 116, 117, 118] hk11_49 rfl (by first | (simp only [transBad, bne, hg119, Bool.true_or, Bool.false_or, Bool.or_true, Bool.or_false, Bool.not_true, Bool.not_false]; done) | (cases s4 with | none => rfl | some r => simp [Cs.evp] at hg119)) rfl rfl
          · obtain ⟨⟨jx, x⟩, rfl⟩ : ∃ r, s4 = some r := by cases s4 with | none => simp [Cs.evp] at hg119 | some r => exact ⟨r, rfl⟩
            obtain ⟨lb2, lo2, cs2, T2, f2, hp2, hb2, hlt2, hr2⟩ := hT.row (hwf.trans _ _ rfl)
            cases hp2
            refine Dr.w rfl rfl rfl rfl (q_move rfl) ?_
            refine Dr.w rfl rfl rfl rfl (q_nil rfl) ?_
            refine Dr.w rfl rfl rfl rfl (q_fieldAddr fo_101_4 rfl rfl) ?_
            refine Dr.r rfl rfl rfl rfl (Sub.rfl' _) (q_load1 ac_63 rfl (hS.pt 2 rfl) rfl) ?_
            refine Dr.w rfl rfl rfl rfl (q_nil rfl) ?_
            refine Dr.w rfl rfl rfl rfl (q_fieldAddr fo_39_3 rfl rfl) ?_
            refine Dr.r rfl rfl rfl rfl (Sub.rfl' _) (q_loadA ac_30 rfl (hS.ro 9 rfl _ _ hb2) (row_partN hr2 4 2 (by decide) rfl rfl)) ?_
            refine Dr.w rfl rfl rfl rfl (q_move rfl) ?_
            refine Dr.w rfl rfl rfl rfl (q_nil rfl) ?_
            refine Dr.w rfl rfl rfl rfl (q_fieldAddr fo_39_2 rfl rfl) ?_
            refine Dr.r rfl rfl rfl rfl (Sub.rfl' _) (q_loadA ac_30 rfl (hS.ro 9 rfl _ _ hb) (row_partN hr 2 2 (by decide) rfl rfl)) ?_
            refine Dr.w rfl rfl rfl rfl (q_ane rfl rfl eg_30 (eq_30 x.new e.conf)) ?_
            refine Dr.w rfl rfl rfl rfl (q_pickF rfl rfl) ?_
            refine Dr.w rfl rfl rfl rfl (q_move rfl) ?_
            refine Dr.split (d := 133) rfl (fun hg133 => ?_) (fun hg133 => ?_)
            · skip
              refine Dr.skip rfl rfl rfl rfl ?_
              refine Dr.skip rfl rfl rfl rfl ?_
              refine Dr.skip rfl rfl rfl rfl ?_
              refine Dr.skip rfl rfl rfl rfl ?_
              refine Dr.skip rfl rfl rfl rfl ?_
              refine Dr.skip rfl rfl rfl rfl ?_
              refine Dr.skip rfl rfl rfl rfl ?_
              refine Dr.skip rfl rfl rfl rfl ?_
              refine Dr.skip rfl rfl rfl rfl ?_
              refine Dr.skip rfl rfl rfl rfl ?_
              refine Dr.skip rfl rfl rfl rfl ?_
              refine Dr.skip rfl rfl rfl rfl ?_
              refine Dr.skip rfl rfl rfl rfl ?_
              refine Dr.w rfl rfl rfl rfl (q_pickT rfl rfl) ?_
              refine Dr.w rfl rfl rfl rfl (q_move rfl) ?_
              refine Dr.skip rfl rfl rfl rfl ?_
              refine Dr.skip rfl rfl rfl rfl ?_
              refine Dr.skip rfl rfl rfl rfl ?_
              refine Dr.skip rfl rfl rfl rfl ?_
              refine Dr.skip rfl rfl rfl rfl ?_
              refine Dr.skip rfl rfl rfl rfl ?_
              refine Dr.skip rfl rfl rfl rfl ?_
              refine Dr.skip rfl rfl rfl rfl ?_
              refine Dr.skip rfl rfl rfl rfl ?_
              refine Dr.skip rfl rfl rfl rfl ?_
              refine Dr.skip rfl rfl rfl rfl ?_
              refine Dr.skip rfl rfl rfl rfl ?_
              refine Dr.skip rfl rfl rfl rfl ?_
              refine Dr.w rfl rfl rfl rfl (q_pickT rfl rfl) ?_
              exact Dr.meet 45 [96, 11, 54, 53, 52, 51, 8, 0, 1, 2, 3, 113, 114, 115, 116, 117, 118] hk11_49 rfl (by first | (simp only [transBad, bne, hg119, hg133, Bool.true_or, Bool.false_or, Bool.or_true, Bool.or_false, Bool.not_true, Bool.not_false]; done) | (cases s4 with | none => rfl | some r => simp [Cs.evp] at hg119)) rfl rfl
            · skip
              refine Dr.w rfl rfl rfl rfl (q_move rfl) ?_
              refine Dr.w rfl rfl rfl rfl (q_nil rfl) ?_
              refine Dr.w rfl rfl rfl rfl (q_fieldAddr fo_101_4 rfl rfl) ?_
              refine Dr.r rfl rfl rfl rfl (Sub.rfl' _) (q_load1 ac_63 rfl (hS.pt 2 rfl) rfl) ?_
              refine Dr.w rfl rfl rfl rfl (q_nil rfl) ?_
              refine Dr.w rfl rfl rfl rfl (q_fieldAddr fo_39_4 rfl rfl) ?_
              refine Dr.r rfl rfl rfl rfl (Sub.rfl' _) (q_load1 ac_28 rfl (hS.ro 9 rfl _ _ hb2) (row_cell hr2 6 rfl)) ?_
              refine Dr.w rfl rfl rfl rfl (q_move rfl) ?_
              refine Dr.w rfl rfl rfl rfl (q_nil rfl) ?_
              refine Dr.w rfl rfl rfl rfl (q_fieldAddr fo_101_2 rfl rfl) ?_
              refine Dr.r rfl rfl rfl rfl (Sub.rfl' _) (q_load1 ac_59 rfl (hS.pt 6 rfl) rfl) ?_
              refine Dr.x rfl rfl rfl rfl (e_callF rfl rfl rfl ca_24 ((in_spec _ _ _).mono fun v145 τ145 h145 => ?_))
              obtain ⟨rfl, rfl⟩ := h145
              refine ⟨.inr (Sub.rfl' _), ?_⟩
              refine Dr.w rfl rfl rfl rfl (q_not rfl) ?_
              refine Dr.w rfl rfl rfl rfl (q_pickF rfl rfl) ?_
              refine Dr.w rfl rfl rfl rfl (q_move rfl) ?_
              refine Dr.split (d := 148) rfl (fun hg148 => ?_) (fun hg148 => ?_)
              · skip
                refine Dr.skip rfl rfl rfl rfl ?_
                refine Dr.skip rfl rfl rfl rfl ?_
                refine Dr.skip rfl rfl rfl rfl ?_
                refine Dr.skip rfl rfl rfl rfl ?_
                refine Dr.skip rfl rfl rfl rfl ?_
                refine Dr.skip rfl rfl rfl rfl ?_
                refine Dr.skip rfl rfl rfl rfl ?_
                refine Dr.skip rfl rfl rfl rfl ?_
                refine Dr.skip rfl rfl rfl rfl ?_
                refine Dr.skip rfl rfl rfl rfl ?_
                refine Dr.skip rfl rfl rfl rfl ?_
                refine Dr.skip rfl rfl rfl rfl ?_
                refine Dr.skip rfl rfl rfl rfl ?_
                refine Dr.w rfl rfl rfl rfl (q_pickT rfl rfl) ?_
                exact Dr.meet 46 [96, 11, 54, 53, 52, 51, 8, 0, 1, 2, 3, 113, 114, 115, 116, 117, 118] hk11_49 rfl (by first | (simp only [transBad, bne, hg119, hg133, hg148, Bool.true_or, Bool.false_or, Bool.or_true, Bool.or_false, Bool.not_true, Bool.not_false]; done) | (cases s4 with | none => rfl | some r => simp [Cs.evp] at hg119)) rfl rfl
              · skip
                refine Dr.w rfl rfl rfl rfl (q_move rfl) ?_
                refine Dr.w rfl rfl rfl rfl (q_nil rfl) ?_
                refine Dr.w rfl rfl rfl rfl (q_fieldAddr fo_101_4 rfl rfl) ?_
                refine Dr.r rfl rfl rfl rfl (Sub.rfl' _) (q_load1 ac_63 rfl (hS.pt 2 rfl) rfl) ?_
                refine Dr.w rfl rfl rfl rfl (q_nil rfl) ?_
                refine Dr.w rfl rfl rfl rfl (q_fieldAddr fo_39_4 rfl rfl) ?_
                refine Dr.r rfl rfl rfl rfl (Sub.rfl' _) (q_load1 ac_28 rfl (hS.ro 9 rfl _ _ hb2) (row_cell hr2 6 rfl)) ?_
                refine Dr.w rfl rfl rfl rfl (q_move rfl) ?_
                refine Dr.w rfl rfl rfl rfl (q_nil rfl) ?_
                refine Dr.w rfl rfl rfl rfl (q_fieldAddr fo_39_1 rfl rfl) ?_
                refine Dr.r rfl rfl rfl rfl (Sub.rfl' _) (q_load1 ac_3 rfl (hS.ro 9 rfl _ _ hb) (row_cell hr 1 rfl)) ?_
                refine Dr.x rfl rfl rfl rfl (e_callF rfl rfl rfl ca_22 ((has_spec _ _ _).mono fun v160 τ160 h160 => ?_))
                obtain ⟨rfl, rfl⟩ := h160
                refine ⟨.inl rfl, ?_⟩
                refine Dr.w rfl rfl rfl rfl (q_not rfl) ?_
                refine Dr.w rfl rfl rfl rfl (q_pickF rfl rfl) ?_
                exact Dr.meet 46 [96, 11, 54, 53, 52, 51, 8, 0, 1, 2, 3, 113, 114, 115, 116, 117, 118] hk11_49 rfl (by first | (simp only [transBad, bne, hg119, hg133, hg148, Bool.true_or, Bool.false_or, Bool.or_true, Bool.or_false, Bool.not_true, Bool.not_false]; done) | (cases s4 with | none => rfl | some r => simp [Cs.evp] at hg119)) rfl rfl
        · skip
          refine Dr.x rfl rfl rfl rfl (e_callF rfl rfl rfl ca_35 ((jbreaks_spec _ _ _ _ _ _ _ _ hS _ _).mono fun v163 τ163 h163 => ?_))
          replace hS := h163
          replace hbad := hbad.brk 1 (transBad s4 e)
          refine ⟨.inl rfl, ?_⟩
          refine Dr.done ?_
          refine St.keep [96, 11, 54, 53, 52, 51, 8, 0, 1, 2, 3] ?_
          show St _ _ _ [(96, _), (11, _), (54, _), (53, _), (52, _), (51, _), (8, _), (0, _), (1, _), (2, _), (3, _)] _ _ _
          replace hS : Stars (_ :: _ :: _ :: _ :: _ :: _ :: _ :: _ :: _ :: _ :: rs) _ := hS.top 5 rfl
          replace hS : Stars (_ :: _ :: _ :: _ :: _ :: _ :: _ :: _ :: _ :: _ :: rs) _ := hS.top 5 rfl
          replace hS : Stars (_ :: _ :: _ :: _ :: _ :: _ :: _ :: _ :: _ :: _ :: rs) _ := hS.top 5 rfl
          replace hS : Stars (_ :: _ :: _ :: _ :: _ :: _ :: _ :: _ :: _ :: _ :: rs) _ := hS.top 5 rfl
          replace hS := stays_close (s := ⟨s0, s1, s2, s3, s4, some (i, e), s6, s7, s8, s9, s10, s11⟩) hS hbk hklt
          refine St.seq ?_
          refine St.region rfl ?_
          refine Reg.q rfl rfl rfl (q_move rfl) ?_
          refine Reg.q rfl rfl rfl (q_move rfl) ?_
          refine Reg.q rfl rfl rfl (q_nil rfl) ?_
          refine Reg.q rfl rfl rfl (q_fieldAddr fo_39_1 rfl rfl) ?_
          refine Reg.q rfl rfl rfl (q_load1 ac_3 rfl (hS.ro 6 rfl _ _ hb) (row_cell hr 1 rfl)) ?_
          refine Reg.q rfl rfl rfl (q_move rfl) ?_
          refine Reg.no rfl rfl (e_mapUpdate Try.underlying87 key_3 rfl rfl rfl (hS.map 5 rfl) (fun τu12_6 hmu12_6 huu12_6 => ?_))
          replace hS : Stars (_ :: _ :: _ :: _ :: _ :: _ :: _ :: rs) _ := (hS.top 5 rfl).mapU huu12_6 hmu12_6
          refine Reg.done ?_
          refine St.keep [96, 11, 54, 53, 52, 51, 8, 0, 1, 2, 3] ?_
          show St _ _ _ [(96, _), (11, _), (54, _), (53, _), (52, _), (51, _), (8, _), (0, _), (1, _), (2, _), (3, _)] _ _ _
          refine St.region rfl ?_
          refine Reg.q rfl rfl rfl (q_move rfl) ?_
          refine Reg.q rfl rfl rfl (q_move rfl) ?_
          refine Reg.q rfl rfl rfl (q_nil rfl) ?_
          refine Reg.q rfl rfl rfl (q_fieldAddr fo_70_1 rfl rfl) ?_
          refine Reg.q rfl rfl rfl (q_load1 ac_68 rfl (hS.pt 2 rfl) rfl) ?_
          refine Reg.q rfl rfl rfl (q_move rfl) ?_
          refine Reg.x rfl rfl rfl (e_buildSlice so_68 zo_90 zr_90_1 rfl rfl rfl (fillN_fill rfl) (fun b176 τ176 hb176 => ?_))
          replace hS : Stars (_ :: _ :: _ :: _ :: _ :: _ :: _ :: _ :: rs) _ := hS.fresh hb176
          refine Reg.x rfl rfl rfl (e_append rfl Try.underlying68 Try.underlying68 sb_90 zo_90 rfl rfl rfl (hS.own 6 rfl) (Rd.lit (hS.pt 0 rfl) rfl) (.inl (by omega)) (allFlat_mem rfl) (by omega) (by omega) (fun b177 o177 c177 τ177 hf177 hu177 ho177 => ?_))
          replace hS : Stars (_ :: _ :: _ :: _ :: _ :: _ :: _ :: _ :: rs) _ := (hS.top 6 rfl).ownU hf177 hu177 ho177
          refine Reg.q rfl rfl rfl (q_nil rfl) ?_
          refine Reg.q rfl rfl rfl (q_fieldAddr fo_70_1 rfl rfl) ?_
          refine Reg.no rfl rfl (e_store rfl rfl sz_68 rfl (hS.pt 4 rfl) (Nat.le_of_ble_eq_true rfl) rfl (storeN_row rfl) (fun τs13_10 hs13_10 hu13_10 => ?_))
          replace hS : Stars (_ :: _ :: _ :: _ :: _ :: _ :: _ :: _ :: rs) _ := (hS.top 4 rfl).ptU hu13_10 hs13_10
          refine Reg.done ?_
          refine St.keep [96, 11, 54, 53, 52, 51, 8, 0, 1, 2, 3] ?_
          show St _ _ _ [(96, _), (11, _), (54, _), (53, _), (52, _), (51, _), (8, _), (0, _), (1, _), (2, _), (3, _)] _ _ _
          refine St.fin Try.func31 .nil (Sub.rfl' _) ?_
          replace hS : Stars (_ :: _ :: _ :: _ :: _ :: _ :: _ :: _ :: rs) _ := hS.top 2 rfl
          replace hS := hS.drop
          replace hS : Stars (_ :: _ :: _ :: _ :: _ :: _ :: _ :: rs) _ := hS.top 6 rfl
          replace hS : Stars (_ :: _ :: _ :: _ :: _ :: _ :: _ :: rs) _ := hS.top 3 rfl
          replace hS : Stars (_ :: _ :: _ :: _ :: _ :: _ :: _ :: rs) _ := hS.top 3 rfl
          replace hS : Stars (_ :: _ :: _ :: _ :: _ :: _ :: _ :: rs) _ := hS.top 5 rfl
          replace hS : Stars (_ :: _ :: _ :: _ :: _ :: _ :: _ :: rs) _ := hS.top 4 rfl
          replace hS : Stars (_ :: _ :: _ :: _ :: _ :: _ :: _ :: rs) _ := hS.top 5 rfl
          replace hS : Stars (_ :: _ :: _ :: _ :: _ :: _ :: _ :: rs) _ := hS.top 6 rfl
          replace hS := ((hS.ownNil (T := 34) (m := 6)).ownNil (T := 103) (m := 8)).top 2 rfl
          have e31 : stayC (some ⟨lb, lo, none⟩) bs (JSt.new i e (some k)) none 0 none 0 = #[.int .i64 e.proc, .int .u64 e.conf.1, .int .i64 e.conf.2, .int .u64 e.mem, .slice none 0 0, .pointer none, .pointer none, .pointer none, .int .i64 0, .pointer none, .slice none 0 0, .bool false, blk (some bk)] := by simp only [stayC, JSt.new, Option.bind_some, hbk]; rfl
          rw [← e31] at hS
          have hbl : bs.length = (J.stays.set k ⟨s0, s1, s2, s3, s4, some (i, e), s6, s7, s8, s9, s10, s11⟩).length := by rw [List.length_set]; exact hJ.len
          replace hS := stays_push (s := JSt.new i e (some k)) (gp := none) (gc := 0) (up := none) (uc := 0) hS hbl (by rw [← rs1]; exact reg_before i e hJ)
          have hlen : (J.reg i e).stays.length = J.stays.length + 1 := by rw [rs1]; simp
          refine ⟨_, some ⟨b177, o177, none⟩, c177, b31, ?_, hJ.reg hi (hbad.congr fun q => (rs2 q).symm)⟩
          rw [hlen, rs1, List.flatMap_append]
          replace hS := ((hS.top 3 rfl).top 3 rfl).top 3 rfl
          exact hS
      · obtain rfl : bq = none := by cases bq with | none => rfl | some bk => simp at hc1
        have hn0 : J.now e.proc = none := by
          cases hn : J.now e.proc with
          | none => rfl
          | some k => rw [hn] at hbq; simp only [Option.bind_some] at hbq; have := hJ.now.lt hn; rw [List.getElem?_eq_getElem this] at hbq; cases hbq
        obtain ⟨rs1, rs2⟩ := reg_none (i := i) hn0
        refine St.skip ?_
        refine St.seq ?_
        refine St.region rfl ?_
        refine Reg.q rfl rfl rfl (q_move rfl) ?_
        refine Reg.q rfl rfl rfl (q_move rfl) ?_
        refine Reg.q rfl rfl rfl (q_nil rfl) ?_
        refine Reg.q rfl rfl rfl (q_fieldAddr fo_39_1 rfl rfl) ?_
        refine Reg.q rfl rfl rfl (q_load1 ac_3 rfl (hS.ro 6 rfl _ _ hb) (row_cell hr 1 rfl)) ?_
        refine Reg.q rfl rfl rfl (q_move rfl) ?_
        refine Reg.no rfl rfl (e_mapUpdate Try.underlying87 key_3 rfl rfl rfl (hS.map 5 rfl) (fun τu12_6 hmu12_6 huu12_6 => ?_))
        replace hS : Stars (_ :: _ :: _ :: _ :: _ :: _ :: _ :: rs) _ := (hS.top 5 rfl).mapU huu12_6 hmu12_6
        refine Reg.done ?_
        refine St.keep [96, 11, 54, 53, 52, 51, 8, 0, 1, 2, 3] ?_
        show St _ _ _ [(96, _), (11, _), (54, _), (53, _), (52, _), (51, _), (8, _), (0, _), (1, _), (2, _), (3, _)] _ _ _
        refine St.region rfl ?_
        refine Reg.q rfl rfl rfl (q_move rfl) ?_
        refine Reg.q rfl rfl rfl (q_move rfl) ?_
        refine Reg.q rfl rfl rfl (q_nil rfl) ?_
        refine Reg.q rfl rfl rfl (q_fieldAddr fo_70_1 rfl rfl) ?_
        refine Reg.q rfl rfl rfl (q_load1 ac_68 rfl (hS.pt 1 rfl) rfl) ?_
        refine Reg.q rfl rfl rfl (q_move rfl) ?_
        refine Reg.x rfl rfl rfl (e_buildSlice so_68 zo_90 zr_90_1 rfl rfl rfl (fillN_fill rfl) (fun b176 τ176 hb176 => ?_))
        replace hS : Stars (_ :: _ :: _ :: _ :: _ :: _ :: _ :: _ :: rs) _ := hS.fresh hb176
        refine Reg.x rfl rfl rfl (e_append rfl Try.underlying68 Try.underlying68 sb_90 zo_90 rfl rfl rfl (hS.own 5 rfl) (Rd.lit (hS.pt 0 rfl) rfl) (.inl (by omega)) (allFlat_mem rfl) (by omega) (by omega) (fun b177 o177 c177 τ177 hf177 hu177 ho177 => ?_))
        replace hS : Stars (_ :: _ :: _ :: _ :: _ :: _ :: _ :: _ :: rs) _ := (hS.top 5 rfl).ownU hf177 hu177 ho177
        refine Reg.q rfl rfl rfl (q_nil rfl) ?_
        refine Reg.q rfl rfl rfl (q_fieldAddr fo_70_1 rfl rfl) ?_
        refine Reg.no rfl rfl (e_store rfl rfl sz_68 rfl (hS.pt 3 rfl) (Nat.le_of_ble_eq_true rfl) rfl (storeN_row rfl) (fun τs13_10 hs13_10 hu13_10 => ?_))
        replace hS : Stars (_ :: _ :: _ :: _ :: _ :: _ :: _ :: _ :: rs) _ := (hS.top 3 rfl).ptU hu13_10 hs13_10
        refine Reg.done ?_
        refine St.keep [96, 11, 54, 53, 52, 51, 8, 0, 1, 2, 3] ?_
        show St _ _ _ [(96, _), (11, _), (54, _), (53, _), (52, _), (51, _), (8, _), (0, _), (1, _), (2, _), (3, _)] _ _ _
        refine St.fin Try.func31 .nil (Sub.rfl' _) ?_
        replace hS : Stars (_ :: _ :: _ :: _ :: _ :: _ :: _ :: _ :: rs) _ := hS.top 2 rfl
        replace hS := hS.drop
        replace hS : Stars (_ :: _ :: _ :: _ :: _ :: _ :: _ :: rs) _ := hS.top 6 rfl
        replace hS : Stars (_ :: _ :: _ :: _ :: _ :: _ :: _ :: rs) _ := hS.top 3 rfl
        replace hS : Stars (_ :: _ :: _ :: _ :: _ :: _ :: _ :: rs) _ := hS.top 3 rfl
        replace hS : Stars (_ :: _ :: _ :: _ :: _ :: _ :: _ :: rs) _ := hS.top 4 rfl
        replace hS : Stars (_ :: _ :: _ :: _ :: _ :: _ :: _ :: rs) _ := hS.top 4 rfl
        replace hS : Stars (_ :: _ :: _ :: _ :: _ :: _ :: _ :: rs) _ := hS.top 6 rfl
        replace hS : Stars (_ :: _ :: _ :: _ :: _ :: _ :: _ :: rs) _ := hS.top 6 rfl
        replace hS := ((hS.ownNil (T := 34) (m := 6)).ownNil (T := 103) (m := 8)).top 2 rfl
        replace hS := stays_push (s := JSt.new i e none) (gp := none) (gc := 0) (up := none) (uc := 0) hS hJ.len (by rw [← rs1]; exact reg_before i e hJ)
        have hlen : (J.reg i e).stays.length = J.stays.length + 1 := by rw [rs1]; simp
        refine ⟨_, some ⟨b177, o177, none⟩, c177, b31, ?_, hJ.reg hi (hbad.congr fun q => (rs2 q).symm)⟩
        rw [hlen, rs1, List.flatMap_append]
        replace hS := ((hS.top 3 rfl).top 3 rfl).top 3 rfl
        exact hS
end Go.Proofs.Ytdgdbnkhmdncdaa
