/- The judge: events of views. -/
import Derived.Test.YtdgdbnkhmdncdaaJ1
import Derived.Test.YtdgdbnkhmdncdaaJl
set_option linter.unusedSectionVars false
set_option linter.unusedSimpArgs false
set_option linter.unusedVariables false
namespace Go.Proofs.Ytdgdbnkhmdncdaa
open Go.Gw Go.Cs
variable [Env]
set_option maxHeartbeats 4000000
namespace FJ4
theorem ac_124 : aggCells Try.prog 124 = some (some 2) := by kernel_rfl
theorem ac_3 : aggCells Try.prog 3 = some none := by kernel_rfl
theorem ac_34 : aggCells Try.prog 34 = some (some 6) := by kernel_rfl
theorem ac_36 : aggCells Try.prog 36 = some (some 4) := by kernel_rfl
theorem ac_37 : aggCells Try.prog 37 = some none := by kernel_rfl
theorem ac_4 : aggCells Try.prog 4 = some none := by kernel_rfl
theorem ac_60 : aggCells Try.prog 60 = some none := by kernel_rfl
theorem ac_63 : aggCells Try.prog 63 = some none := by kernel_rfl
theorem ac_90 : aggCells Try.prog 90 = some none := by kernel_rfl
theorem ca_54 : callable Try.prog 54 = true := by kernel_rfl
theorem ca_55 : callable Try.prog 55 = true := by kernel_rfl
theorem eg_36 : Try.prog.eqGuardType Try.prog.depth 36 = false := by kernel_rfl
theorem fo_101_10 : fieldOff Try.prog 101 10 = some 11 := by kernel_rfl
theorem fo_101_11 : fieldOff Try.prog 101 11 = some 12 := by kernel_rfl
theorem fo_101_6 : fieldOff Try.prog 101 6 = some 7 := by kernel_rfl
theorem fo_101_8 : fieldOff Try.prog 101 8 = some 9 := by kernel_rfl
theorem fo_101_9 : fieldOff Try.prog 101 9 = some 10 := by kernel_rfl
theorem fo_124_0 : fieldOff Try.prog 124 0 = some 0 := by kernel_rfl
theorem fo_39_0 : fieldOff Try.prog 39 0 = some 0 := by kernel_rfl
theorem fo_39_1 : fieldOff Try.prog 39 1 = some 1 := by kernel_rfl
theorem fo_39_5 : fieldOff Try.prog 39 5 = some 7 := by kernel_rfl
theorem fo_39_6 : fieldOff Try.prog 39 6 = some 13 := by kernel_rfl
theorem fo_39_7 : fieldOff Try.prog 39 7 = some 17 := by kernel_rfl
theorem sb_34 : sizeBytes Try.prog 34 = some (6, 72) := by kernel_rfl
theorem se_37 : sliceElem Try.prog 37 = some 2 := by kernel_rfl
theorem so_60 : sliceOf Try.prog 60 = some (34, 6) := by kernel_rfl
theorem sz_4 : szOf Try.prog 4 = some 1 := by kernel_rfl
theorem sz_60 : szOf Try.prog 60 = some 1 := by kernel_rfl
theorem sz_63 : szOf Try.prog 63 = some 1 := by kernel_rfl
theorem zo_34 : zeroOf Try.prog 34 = some #[.int .i64 0, .int .u32 0, .int .u64 0, .int .i64 0, .slice none 0 0, .string ⟨#[]⟩] := by kernel_rfl
theorem zr_34_1 : zrow #[.int .i64 0, .int .u32 0, .int .u64 0, .int .i64 0, .slice none 0 0, .string ⟨#[]⟩] (1 * 6) = #[.int .i64 0, .int .u32 0, .int .u64 0, .int .i64 0, .slice none 0 0, .string ⟨#[]⟩] := by kernel_rfl
end FJ4
open FJ4

theorem jmine_none (i : Nat) (σ ρ : Heap) (rs : List Asr) (es : List Ev) (p : Option Addr) (hT : TraceIs ρ p es) (hes : es.length ≤ 100000) (tb : Nat) (v0 v1 v2 : Value) (bs : List Nat) (J : JTr) (al lal nal : List (Int × Value)) (hJ : JIs es bs J al lal nal i) (hS : Stars (pt tb (.cells #[v0, v1, v2, .int .i64 J.named] 70 (0, 0)) :: staysA p bs J.stays :: ro ρ :: rs) σ) (e : Ev) (hi : es[i]? = some e) (hn : J.now e.proc = none) : Does Try.prog 48 #[.pointer (some ⟨tb, 0, none⟩), evp p (some (i, e)), .pointer none] σ (fun v τ => Stars (pt tb (.cells #[v0, v1, v2, .int .i64 (J.mine i e).named] 70 (0, 0)) :: staysA p bs (J.mine i e).stays :: ro ρ :: rs) τ ∧ JIs es bs (J.mine i e) al lal nal (i + 1)) := by
  refine Does.enter (n := 156) (l := [(0, _), (1, _), (2, _)]) Try.func48 rfl rfl (by simp) rfl ?_
  obtain ⟨lb, lo, cs, TT, fz, rfl, hb, hlt, hr⟩ := hT.row hi
  refine St.seq ?_
  refine St.seq ?_
  refine St.region rfl ?_
  refine Reg.q rfl rfl rfl (q_move rfl) ?_
  refine Reg.q rfl rfl rfl (q_nil rfl) ?_
  refine Reg.q rfl rfl rfl (q_fieldAddr fo_39_0 rfl rfl) ?_
  refine Reg.q rfl rfl rfl (q_load1 ac_3 rfl (hS.ro 2 rfl _ _ hb) (row_cell hr 0 rfl)) ?_
  refine Reg.q rfl rfl rfl (q_ieq rfl rfl) ?_
  refine Reg.q rfl rfl rfl (q_move rfl) ?_
  refine Reg.joinv 28 (.bool (false)) 17 [0, 1, 2, 6, 7, 8, 9, 10] (fun hk0_22 => ?_) ?_
  · skip
    refine Reg.split (d := 11) rfl (fun hg11 => ?_) (fun hg11 => ?_)
    · skip
      refine Reg.q rfl rfl rfl (q_move rfl) ?_
      refine Reg.q rfl rfl rfl (q_pnen Try.underlying90 rfl rfl) ?_
      refine Reg.q rfl rfl rfl (q_pickT rfl rfl) ?_
      refine Reg.q rfl rfl rfl (q_move rfl) ?_
      refine Reg.split (d := 15) rfl (fun hg15 => ?_) (fun hg15 => ?_)
      · exact absurd hg15 (by simp) -- PRUNE
      · skip
        refine Reg.skip rfl rfl rfl ?_
        refine Reg.skip rfl rfl rfl ?_
        refine Reg.skip rfl rfl rfl ?_
        refine Reg.skip rfl rfl rfl ?_
        refine Reg.skip rfl rfl rfl ?_
        refine Reg.q rfl rfl rfl (q_pickF rfl rfl) ?_
        refine Reg.q rfl rfl rfl (q_move rfl) ?_
        refine Reg.skip rfl rfl rfl ?_
        refine Reg.skip rfl rfl rfl ?_
        refine Reg.skip rfl rfl rfl ?_
        refine Reg.skip rfl rfl rfl ?_
        refine Reg.skip rfl rfl rfl ?_
        refine Reg.q rfl rfl rfl (q_pickF rfl rfl) ?_
        exact Reg.meet 19 [0, 1, 2, 6, 7, 8, 9, 10] hk0_22 rfl (by first | rfl | simp) rfl rfl
    · skip
      refine Reg.skip rfl rfl rfl ?_
      refine Reg.skip rfl rfl rfl ?_
      refine Reg.q rfl rfl rfl (q_pickF rfl rfl) ?_
      refine Reg.q rfl rfl rfl (q_move rfl) ?_
      refine Reg.skip rfl rfl rfl ?_
      refine Reg.skip rfl rfl rfl ?_
      refine Reg.skip rfl rfl rfl ?_
      refine Reg.skip rfl rfl rfl ?_
      refine Reg.skip rfl rfl rfl ?_
      refine Reg.q rfl rfl rfl (q_pickF rfl rfl) ?_
      refine Reg.q rfl rfl rfl (q_move rfl) ?_
      refine Reg.skip rfl rfl rfl ?_
      refine Reg.skip rfl rfl rfl ?_
      refine Reg.skip rfl rfl rfl ?_
      refine Reg.skip rfl rfl rfl ?_
      refine Reg.skip rfl rfl rfl ?_
      refine Reg.q rfl rfl rfl (q_pickF rfl rfl) ?_
      exact Reg.meet 18 [0, 1, 2, 6, 7, 8, 9, 10] hk0_22 rfl (by first | rfl | simp) rfl rfl
  · skip
    refine Reg.done ?_
    refine St.keep [0, 1, 2, 28] ?_
    show St _ _ _ [(28, _), (0, _), (1, _), (2, _)] _ _ _
    refine St.condF rfl ?_
    refine St.skip ?_
    refine St.seq ?_
    refine St.seq ?_
    refine St.draw0 [] [(0, .w), (1, .w), (2, .w), (3, .w), (4, .w), (5, .w), (6, .r), (7, .w), (8, .w), (9, .w), (10, .w), (11, .w), (12, .w), (13, .r), (14, .w), (15, .w), (16, .w), (17, .w), (18, .w), (19, .r), (20, .r), (21, .w), (22, .w), (23, .w), (24, .w), (25, .w), (26, .w), (27, .r), (28, .w), (29, .w), (30, .r), (31, .w), (32, .w), (33, .w), (34, .r), (35, .w), (36, .w), (37, .w), (38, .w), (39, .w), (40, .w), (41, .r), (42, .w), (43, .w), (44, .r), (45, .w), (46, .w), (47, .w), (48, .r), (49, .w), (50, .r), (51, .x), (52, .w), (53, .w), (54, .w), (55, .w), (56, .w), (57, .w), (58, .r), (59, .w), (60, .w), (61, .w), (62, .r), (63, .w), (64, .w), (65, .r), (66, .w), (67, .w)] mixed (by kernel_rfl) rfl ?_
    refine Dr.w rfl rfl rfl rfl (q_move rfl) ?_
    refine Dr.w rfl rfl rfl rfl (q_peqn Try.underlying90 rfl rfl) ?_
    refine Dr.w rfl rfl rfl rfl (q_move rfl) ?_
    refine Dr.split (d := 35) rfl (fun hg35 => ?_) (fun hg35 => ?_)
    · skip
      refine Dr.skip rfl rfl rfl rfl ?_
      refine Dr.skip rfl rfl rfl rfl ?_
      refine Dr.skip rfl rfl rfl rfl ?_
      refine Dr.skip rfl rfl rfl rfl ?_
      refine Dr.skip rfl rfl rfl rfl ?_
      refine Dr.w rfl rfl rfl rfl (q_pickT rfl rfl) ?_
      refine Dr.w rfl rfl rfl rfl (q_move rfl) ?_
      refine Dr.skip rfl rfl rfl rfl ?_
      refine Dr.skip rfl rfl rfl rfl ?_
      refine Dr.skip rfl rfl rfl rfl ?_
      refine Dr.skip rfl rfl rfl rfl ?_
      refine Dr.w rfl rfl rfl rfl (q_pickT rfl rfl) ?_
      refine Dr.w rfl rfl rfl rfl (q_move rfl) ?_
      refine Dr.skip rfl rfl rfl rfl ?_
      refine Dr.skip rfl rfl rfl rfl ?_
      refine Dr.skip rfl rfl rfl rfl ?_
      refine Dr.skip rfl rfl rfl rfl ?_
      refine Dr.skip rfl rfl rfl rfl ?_
      refine Dr.skip rfl rfl rfl rfl ?_
      refine Dr.w rfl rfl rfl rfl (q_pickT rfl rfl) ?_
      refine Dr.w rfl rfl rfl rfl (q_move rfl) ?_
      refine Dr.skip rfl rfl rfl rfl ?_
      refine Dr.skip rfl rfl rfl rfl ?_
      refine Dr.skip rfl rfl rfl rfl ?_
      refine Dr.skip rfl rfl rfl rfl ?_
      refine Dr.skip rfl rfl rfl rfl ?_
      refine Dr.skip rfl rfl rfl rfl ?_
      refine Dr.skip rfl rfl rfl rfl ?_
      refine Dr.skip rfl rfl rfl rfl ?_
      refine Dr.skip rfl rfl rfl rfl ?_
      refine Dr.skip rfl rfl rfl rfl ?_
      refine Dr.skip rfl rfl rfl rfl ?_
      refine Dr.skip rfl rfl rfl rfl ?_
      refine Dr.w rfl rfl rfl rfl (q_pickT rfl rfl) ?_
      refine Dr.w rfl rfl rfl rfl (q_move rfl) ?_
      refine Dr.skip rfl rfl rfl rfl ?_
      refine Dr.skip rfl rfl rfl rfl ?_
      refine Dr.skip rfl rfl rfl rfl ?_
      refine Dr.skip rfl rfl rfl rfl ?_
      refine Dr.skip rfl rfl rfl rfl ?_
      refine Dr.skip rfl rfl rfl rfl ?_
      refine Dr.skip rfl rfl rfl rfl ?_
      refine Dr.skip rfl rfl rfl rfl ?_
      refine Dr.skip rfl rfl rfl rfl ?_
      refine Dr.skip rfl rfl rfl rfl ?_
      refine Dr.skip rfl rfl rfl rfl ?_
      refine Dr.skip rfl rfl rfl rfl ?_
      refine Dr.skip rfl rfl rfl rfl ?_
      refine Dr.skip rfl rfl rfl rfl ?_
      refine Dr.skip rfl rfl rfl rfl ?_
      refine Dr.w rfl rfl rfl rfl (q_pickT rfl rfl) ?_
      refine Dr.w rfl rfl rfl rfl (q_move rfl) ?_
      refine Dr.skip rfl rfl rfl rfl ?_
      refine Dr.skip rfl rfl rfl rfl ?_
      refine Dr.skip rfl rfl rfl rfl ?_
      refine Dr.skip rfl rfl rfl rfl ?_
      refine Dr.skip rfl rfl rfl rfl ?_
      refine Dr.skip rfl rfl rfl rfl ?_
      refine Dr.skip rfl rfl rfl rfl ?_
      refine Dr.skip rfl rfl rfl rfl ?_
      refine Dr.skip rfl rfl rfl rfl ?_
      refine Dr.skip rfl rfl rfl rfl ?_
      refine Dr.skip rfl rfl rfl rfl ?_
      refine Dr.skip rfl rfl rfl rfl ?_
      refine Dr.w rfl rfl rfl rfl (q_pickT rfl rfl) ?_
      refine Dr.done ?_
      refine St.keep [28, 0, 1, 2, 100] ?_
      show St _ _ _ [(100, _), (28, _), (0, _), (1, _), (2, _)] _ _ _
      refine St.condT rfl ?_
      refine St.seq ?_
      refine St.region rfl ?_
      refine Reg.q rfl rfl rfl (q_move rfl) ?_
      refine Reg.x rfl rfl rfl (e_callF rfl rfl rfl ca_55 ((jwrong_spec _ _ _ _ _ _ _ hS _ _).mono fun v102 τ102 h102 => ?_))
      replace hS := h102
      refine Reg.done ?_
      refine St.keep [100, 28, 0, 1, 2] ?_
      show St _ _ _ [(100, _), (28, _), (0, _), (1, _), (2, _)] _ _ _
      refine St.ret Try.func48 .nil (Sub.rfl' _) ?_
      rw [mine_none hn]
      exact ⟨hS, (hJ.wrong 3 true).more⟩
    · exact absurd hg35 (by simp) -- PRUNE

theorem jmine_some (i : Nat) (σ ρ : Heap) (rs : List Asr) (es : List Ev) (p : Option Addr) (hT : TraceIs ρ p es) (hes : es.length ≤ 100000) (tb : Nat) (v0 v1 v2 : Value) (bs : List Nat) (J : JTr) (al lal nal : List (Int × Value)) (hJ : JIs es bs J al lal nal i) (hS : Stars (pt tb (.cells #[v0, v1, v2, .int .i64 J.named] 70 (0, 0)) :: staysA p bs J.stays :: ro ρ :: rs) σ) (e : Ev) (hi : es[i]? = some e) (k0 b0 : Nat) (z : JSt) (hn : J.now e.proc = some k0) (hb0 : bs[k0]? = some b0) (hz : J.stays[k0]? = some z) : Does Try.prog 48 #[.pointer (some ⟨tb, 0, none⟩), evp p (some (i, e)), .pointer (some ⟨b0, 0, none⟩)] σ (fun v τ => Stars (pt tb (.cells #[v0, v1, v2, .int .i64 (J.mine i e).named] 70 (0, 0)) :: staysA p bs (J.mine i e).stays :: ro ρ :: rs) τ ∧ JIs es bs (J.mine i e) al lal nal (i + 1)) := by
  refine Does.enter (n := 156) (l := [(0, _), (1, _), (2, _)]) Try.func48 rfl rfl (by simp) rfl ?_
  obtain ⟨lb, lo, cs, TT, fz, rfl, hb, hlt, hr⟩ := hT.row hi
  obtain ⟨k, bk, s, hk, hbk, hs, hlate, hnot⟩ := mine_stay hJ e hb0 hz
  have hmine := mine_some (i := i) hn hz hk hs
  have hzb := (hJ.wf z (List.mem_of_getElem? hz)).before
  obtain ⟨gp0, gc0, up0, uc0, hst0, _⟩ := stays_at hS (k := 1) rfl hb0 hz
  obtain ⟨gp1, gc1, up1, uc1, hst, _⟩ := stays_at hS (k := 1) rfl hbk hs
  have hklt : k < J.stays.length := (List.getElem?_eq_some_iff.1 hs).1
  have hwf := hJ.wf s (List.mem_of_getElem? hs)
  have hfew := hJ.few.2 s (List.mem_of_getElem? hs)
  have hok := hT.2 e (List.mem_of_getElem? hi)
  obtain ⟨z0, z1, z2, z3, z4, z5, z6, z7, z8, z9, z10, z11⟩ := z
  obtain ⟨s0, s1, s2, s3, s4, s5, s6, s7, s8, s9, s10, s11⟩ := s
  change s3.length ≤ i ∧ s9.length ≤ i at hfew
  simp only [stayC] at hst hst0
  refine St.seq ?_
  refine St.seq ?_
  refine St.region rfl ?_
  refine Reg.q rfl rfl rfl (q_move rfl) ?_
  refine Reg.q rfl rfl rfl (q_nil rfl) ?_
  refine Reg.q rfl rfl rfl (q_fieldAddr fo_39_0 rfl rfl) ?_
  refine Reg.q rfl rfl rfl (q_load1 ac_3 rfl (hS.ro 2 rfl _ _ hb) (row_cell hr 0 rfl)) ?_
  refine Reg.q rfl rfl rfl (q_ieq rfl rfl) ?_
  refine Reg.q rfl rfl rfl (q_move rfl) ?_
  refine Reg.joinv 28 (.bool (late e ⟨z0, z1, z2, z3, z4, z5, z6, z7, z8, z9, z10, z11⟩)) 17 [0, 1, 2, 6, 7, 8, 9, 10] (fun hk0_22 => ?_) ?_
  · skip
    refine Reg.split (d := 11) rfl (fun hg11 => ?_) (fun hg11 => ?_)
    · skip
      refine Reg.q rfl rfl rfl (q_move rfl) ?_
      refine Reg.q rfl rfl rfl (QOp.eq (v' := .bool true) (q_pnen Try.underlying90 rfl rfl) rfl) ?_
      refine Reg.q rfl rfl rfl (q_pickT rfl rfl) ?_
      refine Reg.q rfl rfl rfl (q_move rfl) ?_
      refine Reg.split (d := 15) rfl (fun hg15 => ?_) (fun hg15 => ?_)
      · skip
        refine Reg.q rfl rfl rfl (q_move rfl) ?_
        refine Reg.q rfl rfl rfl (q_nil rfl) ?_
        refine Reg.q rfl rfl rfl (q_fieldAddr fo_101_6 rfl rfl) ?_
        refine Reg.q rfl rfl rfl (q_load1 ac_63 rfl hst0 rfl) ?_
        refine Reg.q rfl rfl rfl (QOp.eq (v' := .bool z6.isNone) (q_peqn Try.underlying63 rfl rfl) (by cases z6 <;> rfl)) ?_
        refine Reg.q rfl rfl rfl (q_pickT rfl rfl) ?_
        refine Reg.q rfl rfl rfl (q_move rfl) ?_
        refine Reg.split (d := 22) rfl (fun hg22 => ?_) (fun hg22 => ?_)
        · skip
          refine Reg.q rfl rfl rfl (q_move rfl) ?_
          refine Reg.q rfl rfl rfl (q_nil rfl) ?_
          refine Reg.q rfl rfl rfl (q_fieldAddr fo_101_11 rfl rfl) ?_
          refine Reg.q rfl rfl rfl (q_load1 ac_90 rfl hst0 rfl) ?_
          refine Reg.q rfl rfl rfl (QOp.eq (v' := .bool z11.isSome) (q_pnen Try.underlying90 rfl rfl) (by cases z11 with | none => rfl | some j => (have := hzb j rfl; rw [← hJ.len] at this; simp [this]))) ?_
          refine Reg.q rfl rfl rfl (q_pickT rfl rfl) ?_
          exact Reg.meet 20 [0, 1, 2, 6, 7, 8, 9, 10] hk0_22 rfl (by simp only [late, hg11, hg15, hg22, Bool.true_and, Bool.false_and]) rfl rfl
        · skip
          refine Reg.skip rfl rfl rfl ?_
          refine Reg.skip rfl rfl rfl ?_
          refine Reg.skip rfl rfl rfl ?_
          refine Reg.skip rfl rfl rfl ?_
          refine Reg.skip rfl rfl rfl ?_
          refine Reg.q rfl rfl rfl (q_pickF rfl rfl) ?_
          exact Reg.meet 20 [0, 1, 2, 6, 7, 8, 9, 10] hk0_22 rfl (by simp only [late, hg11, hg15, hg22, Bool.true_and, Bool.false_and]) rfl rfl
      · exact absurd hg15 (by simp) -- PRUNE
    · skip
      refine Reg.skip rfl rfl rfl ?_
      refine Reg.skip rfl rfl rfl ?_
      refine Reg.q rfl rfl rfl (q_pickF rfl rfl) ?_
      refine Reg.q rfl rfl rfl (q_move rfl) ?_
      refine Reg.skip rfl rfl rfl ?_
      refine Reg.skip rfl rfl rfl ?_
      refine Reg.skip rfl rfl rfl ?_
      refine Reg.skip rfl rfl rfl ?_
      refine Reg.skip rfl rfl rfl ?_
      refine Reg.q rfl rfl rfl (q_pickF rfl rfl) ?_
      refine Reg.q rfl rfl rfl (q_move rfl) ?_
      refine Reg.skip rfl rfl rfl ?_
      refine Reg.skip rfl rfl rfl ?_
      refine Reg.skip rfl rfl rfl ?_
      refine Reg.skip rfl rfl rfl ?_
      refine Reg.skip rfl rfl rfl ?_
      refine Reg.q rfl rfl rfl (q_pickF rfl rfl) ?_
      exact Reg.meet 18 [0, 1, 2, 6, 7, 8, 9, 10] hk0_22 rfl (by simp only [late, hg11, Bool.true_and, Bool.false_and]) rfl rfl
  · skip
    refine Reg.done ?_
    refine St.keep [0, 1, 2, 28] ?_
    show St _ _ _ [(28, _), (0, _), (1, _), (2, _)] _ _ _
    refine St.joinv 2 (.pointer (some ⟨bk, 0, none⟩)) (fun hkc0 => ?_) ?_
    · skip
      refine St.cond rfl (fun hc0 => ?_) (fun hc0 => ?_)
      · skip
        refine St.region rfl ?_
        refine Reg.q rfl rfl rfl (q_move rfl) ?_
        refine Reg.q rfl rfl rfl (q_nil rfl) ?_
        refine Reg.q rfl rfl rfl (q_fieldAddr fo_101_11 rfl rfl) ?_
        refine Reg.q rfl rfl rfl (QOp.eq (q_load1 ac_90 rfl hst0 rfl) (hlate hc0)) ?_
        refine Reg.q rfl rfl rfl (q_assign rfl) ?_
        refine Reg.done ?_
        refine St.keep [28, 0, 1, 2] ?_
        show St _ _ _ [(2, _), (28, _), (0, _), (1, _), (2, _)] _ _ _
        exact St.conv (SubL.list (by rfl)) (Sub.rfl' _) hkc0
      · obtain rfl := hnot hc0
        refine St.skip ?_
        exact St.conv (SubL.list (by rfl)) (Sub.rfl' _) hkc0
    · skip
      refine St.seq ?_
      refine St.seq ?_
      refine St.draw0 [] [(0, .w), (1, .w), (2, .w), (3, .w), (4, .w), (5, .w), (6, .r), (7, .w), (8, .w), (9, .w), (10, .w), (11, .w), (12, .w), (13, .r), (14, .w), (15, .w), (16, .w), (17, .w), (18, .w), (19, .r), (20, .r), (21, .w), (22, .w), (23, .w), (24, .w), (25, .w), (26, .w), (27, .r), (28, .w), (29, .w), (30, .r), (31, .w), (32, .w), (33, .w), (34, .r), (35, .w), (36, .w), (37, .w), (38, .w), (39, .w), (40, .w), (41, .r), (42, .w), (43, .w), (44, .r), (45, .w), (46, .w), (47, .w), (48, .r), (49, .w), (50, .r), (51, .x), (52, .w), (53, .w), (54, .w), (55, .w), (56, .w), (57, .w), (58, .r), (59, .w), (60, .w), (61, .w), (62, .r), (63, .w), (64, .w), (65, .r), (66, .w), (67, .w)] mixed (by kernel_rfl) rfl ?_
      refine Dr.w rfl rfl rfl rfl (q_move rfl) ?_
      refine Dr.w rfl rfl rfl rfl (QOp.eq (v' := .bool false) (q_peqn Try.underlying90 rfl rfl) rfl) ?_
      refine Dr.w rfl rfl rfl rfl (q_move rfl) ?_
      refine Dr.joinv 100 (.bool (mineBad ⟨s0, s1, s2, s3, s4, s5, s6, s7, s8, s9, s10, s11⟩ e)) 65 [2, 28, 0, 1, 2, 33, 34] (fun hk2_67 => ?_) ?_
      · skip
        refine Dr.split (d := 35) rfl (fun hg35 => ?_) (fun hg35 => ?_)
        · exact absurd hg35 (by simp) -- PRUNE
        · skip
          refine Dr.w rfl rfl rfl rfl (q_move rfl) ?_
          refine Dr.w rfl rfl rfl rfl (q_nil rfl) ?_
          refine Dr.w rfl rfl rfl rfl (q_fieldAddr fo_101_6 rfl rfl) ?_
          refine Dr.r rfl rfl rfl rfl (Sub.rfl' _) (q_load1 ac_63 rfl hst rfl) ?_
          refine Dr.w rfl rfl rfl rfl (QOp.eq (v' := .bool s6.isNone) (q_peqn Try.underlying63 rfl rfl) (by cases s6 <;> rfl)) ?_
          refine Dr.w rfl rfl rfl rfl (q_pickF rfl rfl) ?_
          refine Dr.w rfl rfl rfl rfl (q_move rfl) ?_
          refine Dr.split (d := 42) rfl (fun hg42 => ?_) (fun hg42 => ?_)
          · skip
            refine Dr.skip rfl rfl rfl rfl ?_
            refine Dr.skip rfl rfl rfl rfl ?_
            refine Dr.skip rfl rfl rfl rfl ?_
            refine Dr.skip rfl rfl rfl rfl ?_
            refine Dr.w rfl rfl rfl rfl (q_pickT rfl rfl) ?_
            refine Dr.w rfl rfl rfl rfl (q_move rfl) ?_
            refine Dr.skip rfl rfl rfl rfl ?_
            refine Dr.skip rfl rfl rfl rfl ?_
            refine Dr.skip rfl rfl rfl rfl ?_
            refine Dr.skip rfl rfl rfl rfl ?_
            refine Dr.skip rfl rfl rfl rfl ?_
            refine Dr.skip rfl rfl rfl rfl ?_
            refine Dr.w rfl rfl rfl rfl (q_pickT rfl rfl) ?_
            refine Dr.w rfl rfl rfl rfl (q_move rfl) ?_
            refine Dr.skip rfl rfl rfl rfl ?_
            refine Dr.skip rfl rfl rfl rfl ?_
            refine Dr.skip rfl rfl rfl rfl ?_
            refine Dr.skip rfl rfl rfl rfl ?_
            refine Dr.skip rfl rfl rfl rfl ?_
            refine Dr.skip rfl rfl rfl rfl ?_
            refine Dr.skip rfl rfl rfl rfl ?_
            refine Dr.skip rfl rfl rfl rfl ?_
            refine Dr.skip rfl rfl rfl rfl ?_
            refine Dr.skip rfl rfl rfl rfl ?_
            refine Dr.skip rfl rfl rfl rfl ?_
            refine Dr.skip rfl rfl rfl rfl ?_
            refine Dr.w rfl rfl rfl rfl (q_pickT rfl rfl) ?_
            refine Dr.w rfl rfl rfl rfl (q_move rfl) ?_
            refine Dr.skip rfl rfl rfl rfl ?_
            refine Dr.skip rfl rfl rfl rfl ?_
            refine Dr.skip rfl rfl rfl rfl ?_
            refine Dr.skip rfl rfl rfl rfl ?_
            refine Dr.skip rfl rfl rfl rfl ?_
            refine Dr.skip rfl rfl rfl rfl ?_
            refine Dr.skip rfl rfl rfl rfl ?_
            refine Dr.skip rfl rfl rfl rfl ?_
            refine Dr.skip rfl rfl rfl rfl ?_
            refine Dr.skip rfl rfl rfl rfl ?_
            refine Dr.skip rfl rfl rfl rfl ?_
            refine Dr.skip rfl rfl rfl rfl ?_
            refine Dr.skip rfl rfl rfl rfl ?_
            refine Dr.skip rfl rfl rfl rfl ?_
            refine Dr.skip rfl rfl rfl rfl ?_
            refine Dr.w rfl rfl rfl rfl (q_pickT rfl rfl) ?_
            refine Dr.w rfl rfl rfl rfl (q_move rfl) ?_
            refine Dr.skip rfl rfl rfl rfl ?_
            refine Dr.skip rfl rfl rfl rfl ?_
            refine Dr.skip rfl rfl rfl rfl ?_
            refine Dr.skip rfl rfl rfl rfl ?_
            refine Dr.skip rfl rfl rfl rfl ?_
            refine Dr.skip rfl rfl rfl rfl ?_
            refine Dr.skip rfl rfl rfl rfl ?_
            refine Dr.skip rfl rfl rfl rfl ?_
            refine Dr.skip rfl rfl rfl rfl ?_
            refine Dr.skip rfl rfl rfl rfl ?_
            refine Dr.skip rfl rfl rfl rfl ?_
            refine Dr.skip rfl rfl rfl rfl ?_
            refine Dr.w rfl rfl rfl rfl (q_pickT rfl rfl) ?_
            exact Dr.meet 67 [2, 28, 0, 1, 2, 33, 34] hk2_67 rfl (by first | (cases s6 with | none => rfl | some r => (simp at hg42; done)) | (simp only [mineBad, hg35, hg42, Bool.true_or]; done) | (simp only [mineBad, hg35, hg42, hy, bne, Bool.true_or, Bool.false_or]; done) | (simp only [mineBad, hg35, hg42, hy, Bool.true_or, Bool.false_or]; done) | (simp only [mineBad, hg35, hg42, hy, Bool.true_or, Bool.false_or]; rfl) | (simp only [mineBad, hg35, hg42, Bool.false_or]; split <;> first | rfl | (simp_all; done) | (rename_i hx; exfalso; have hx1 := congrArg List.length hx; simp only [List.length_cons, List.length_nil, Nat.zero_add] at hx1; have hg0 := hg56; rw [hx1] at hg0; exact absurd hg0 (by decide)))) rfl rfl
          · obtain ⟨⟨jv, vv⟩, rfl⟩ : ∃ r, s6 = some r := by cases s6 with | none => simp at hg42 | some r => exact ⟨r, rfl⟩
            have hvv := hwf.view _ _ rfl
            have hokv := hT.2 vv (List.mem_of_getElem? hvv)
            obtain ⟨lb3, lo3, cs3, T3, f3, hp3, hb3, hlt3, hr3⟩ := hT.row hvv
            cases hp3
            refine Dr.w rfl rfl rfl rfl (q_move rfl) ?_
            refine Dr.w rfl rfl rfl rfl (q_nil rfl) ?_
            refine Dr.w rfl rfl rfl rfl (q_fieldAddr fo_101_10 rfl rfl) ?_
            refine Dr.r rfl rfl rfl rfl (Sub.rfl' _) (q_load1 ac_4 rfl hst rfl) ?_
            refine Dr.w rfl rfl rfl rfl (q_pickF rfl rfl) ?_
            refine Dr.w rfl rfl rfl rfl (q_move rfl) ?_
            refine Dr.split (d := 48) rfl (fun hg48 => ?_) (fun hg48 => ?_)
            · skip
              refine Dr.skip rfl rfl rfl rfl ?_
              refine Dr.skip rfl rfl rfl rfl ?_
              refine Dr.skip rfl rfl rfl rfl ?_
              refine Dr.skip rfl rfl rfl rfl ?_
              refine Dr.skip rfl rfl rfl rfl ?_
              refine Dr.skip rfl rfl rfl rfl ?_
              refine Dr.w rfl rfl rfl rfl (q_pickT rfl rfl) ?_
              refine Dr.w rfl rfl rfl rfl (q_move rfl) ?_
              refine Dr.skip rfl rfl rfl rfl ?_
              refine Dr.skip rfl rfl rfl rfl ?_
              refine Dr.skip rfl rfl rfl rfl ?_
              refine Dr.skip rfl rfl rfl rfl ?_
              refine Dr.skip rfl rfl rfl rfl ?_
              refine Dr.skip rfl rfl rfl rfl ?_
              refine Dr.skip rfl rfl rfl rfl ?_
              refine Dr.skip rfl rfl rfl rfl ?_
              refine Dr.skip rfl rfl rfl rfl ?_
              refine Dr.skip rfl rfl rfl rfl ?_
              refine Dr.skip rfl rfl rfl rfl ?_
              refine Dr.skip rfl rfl rfl rfl ?_
              refine Dr.w rfl rfl rfl rfl (q_pickT rfl rfl) ?_
              refine Dr.w rfl rfl rfl rfl (q_move rfl) ?_
              refine Dr.skip rfl rfl rfl rfl ?_
              refine Dr.skip rfl rfl rfl rfl ?_
              refine Dr.skip rfl rfl rfl rfl ?_
              refine Dr.skip rfl rfl rfl rfl ?_
              refine Dr.skip rfl rfl rfl rfl ?_
              refine Dr.skip rfl rfl rfl rfl ?_
              refine Dr.skip rfl rfl rfl rfl ?_
              refine Dr.skip rfl rfl rfl rfl ?_
              refine Dr.skip rfl rfl rfl rfl ?_
              refine Dr.skip rfl rfl rfl rfl ?_
              refine Dr.skip rfl rfl rfl rfl ?_
              refine Dr.skip rfl rfl rfl rfl ?_
              refine Dr.skip rfl rfl rfl rfl ?_
              refine Dr.skip rfl rfl rfl rfl ?_
              refine Dr.skip rfl rfl rfl rfl ?_
              refine Dr.w rfl rfl rfl rfl (q_pickT rfl rfl) ?_
              refine Dr.w rfl rfl rfl rfl (q_move rfl) ?_
              refine Dr.skip rfl rfl rfl rfl ?_
              refine Dr.skip rfl rfl rfl rfl ?_
              refine Dr.skip rfl rfl rfl rfl ?_
              refine Dr.skip rfl rfl rfl rfl ?_
              refine Dr.skip rfl rfl rfl rfl ?_
              refine Dr.skip rfl rfl rfl rfl ?_
              refine Dr.skip rfl rfl rfl rfl ?_
              refine Dr.skip rfl rfl rfl rfl ?_
              refine Dr.skip rfl rfl rfl rfl ?_
              refine Dr.skip rfl rfl rfl rfl ?_
              refine Dr.skip rfl rfl rfl rfl ?_
              refine Dr.skip rfl rfl rfl rfl ?_
              refine Dr.w rfl rfl rfl rfl (q_pickT rfl rfl) ?_
              exact Dr.meet 68 [2, 28, 0, 1, 2, 33, 34] hk2_67 rfl (by first | (cases s6 with | none => rfl | some r => (simp at hg42; done)) | (simp only [mineBad, hg35, hg42, hg48, Bool.true_or]; done) | (simp only [mineBad, hg35, hg42, hg48, hy, bne, Bool.true_or, Bool.false_or]; done) | (simp only [mineBad, hg35, hg42, hg48, hy, Bool.true_or, Bool.false_or]; done) | (simp only [mineBad, hg35, hg42, hg48, hy, Bool.true_or, Bool.false_or]; rfl) | (simp only [mineBad, hg35, hg42, hg48, Bool.false_or]; split <;> first | rfl | (simp_all; done) | (rename_i hx; exfalso; have hx1 := congrArg List.length hx; simp only [List.length_cons, List.length_nil, Nat.zero_add] at hx1; have hg0 := hg56; rw [hx1] at hg0; exact absurd hg0 (by decide)))) rfl rfl
            · skip
              refine Dr.w rfl rfl rfl rfl (q_move rfl) ?_
              refine Dr.w rfl rfl rfl rfl (q_nil rfl) ?_
              refine Dr.w rfl rfl rfl rfl (q_fieldAddr fo_39_7 rfl rfl) ?_
              refine Dr.r rfl rfl rfl rfl (Sub.rfl' _) (q_load1 ac_37 rfl (hS.ro 2 rfl _ _ hb) (row_cell hr 17 rfl)) ?_
              refine Dr.r rfl rfl rfl rfl (Sub.rfl' _) (q_lenS rfl se_37 rfl) ?_
              refine Dr.w rfl rfl rfl rfl (q_ine rfl rfl) ?_
              refine Dr.w rfl rfl rfl rfl (q_pickF rfl rfl) ?_
              refine Dr.w rfl rfl rfl rfl (q_move rfl) ?_
              refine Dr.split (d := 56) rfl (fun hg56 => ?_) (fun hg56 => ?_)
              · skip
                refine Dr.skip rfl rfl rfl rfl ?_
                refine Dr.skip rfl rfl rfl rfl ?_
                refine Dr.skip rfl rfl rfl rfl ?_
                refine Dr.skip rfl rfl rfl rfl ?_
                refine Dr.skip rfl rfl rfl rfl ?_
                refine Dr.skip rfl rfl rfl rfl ?_
                refine Dr.skip rfl rfl rfl rfl ?_
                refine Dr.skip rfl rfl rfl rfl ?_
                refine Dr.skip rfl rfl rfl rfl ?_
                refine Dr.skip rfl rfl rfl rfl ?_
                refine Dr.skip rfl rfl rfl rfl ?_
                refine Dr.skip rfl rfl rfl rfl ?_
                refine Dr.w rfl rfl rfl rfl (q_pickT rfl rfl) ?_
                refine Dr.w rfl rfl rfl rfl (q_move rfl) ?_
                refine Dr.skip rfl rfl rfl rfl ?_
                refine Dr.skip rfl rfl rfl rfl ?_
                refine Dr.skip rfl rfl rfl rfl ?_
                refine Dr.skip rfl rfl rfl rfl ?_
                refine Dr.skip rfl rfl rfl rfl ?_
                refine Dr.skip rfl rfl rfl rfl ?_
                refine Dr.skip rfl rfl rfl rfl ?_
                refine Dr.skip rfl rfl rfl rfl ?_
                refine Dr.skip rfl rfl rfl rfl ?_
                refine Dr.skip rfl rfl rfl rfl ?_
                refine Dr.skip rfl rfl rfl rfl ?_
                refine Dr.skip rfl rfl rfl rfl ?_
                refine Dr.skip rfl rfl rfl rfl ?_
                refine Dr.skip rfl rfl rfl rfl ?_
                refine Dr.skip rfl rfl rfl rfl ?_
                refine Dr.w rfl rfl rfl rfl (q_pickT rfl rfl) ?_
                refine Dr.w rfl rfl rfl rfl (q_move rfl) ?_
                refine Dr.skip rfl rfl rfl rfl ?_
                refine Dr.skip rfl rfl rfl rfl ?_
                refine Dr.skip rfl rfl rfl rfl ?_
                refine Dr.skip rfl rfl rfl rfl ?_
                refine Dr.skip rfl rfl rfl rfl ?_
                refine Dr.skip rfl rfl rfl rfl ?_
                refine Dr.skip rfl rfl rfl rfl ?_
                refine Dr.skip rfl rfl rfl rfl ?_
                refine Dr.skip rfl rfl rfl rfl ?_
                refine Dr.skip rfl rfl rfl rfl ?_
                refine Dr.skip rfl rfl rfl rfl ?_
                refine Dr.skip rfl rfl rfl rfl ?_
                refine Dr.w rfl rfl rfl rfl (q_pickT rfl rfl) ?_
                exact Dr.meet 69 [2, 28, 0, 1, 2, 33, 34] hk2_67 rfl (by first | (cases s6 with | none => rfl | some r => (simp at hg42; done)) | (simp only [mineBad, hg35, hg42, hg48, hg56, Bool.true_or]; done) | (simp only [mineBad, hg35, hg42, hg48, hg56, hy, bne, Bool.true_or, Bool.false_or]; done) | (simp only [mineBad, hg35, hg42, hg48, hg56, hy, Bool.true_or, Bool.false_or]; done) | (simp only [mineBad, hg35, hg42, hg48, hg56, hy, Bool.true_or, Bool.false_or]; rfl) | (simp only [mineBad, hg35, hg42, hg48, hg56, Bool.false_or]; split <;> first | rfl | (simp_all; done) | (rename_i hx; exfalso; have hx1 := congrArg List.length hx; simp only [List.length_cons, List.length_nil, Nat.zero_add] at hx1; have hg0 := hg56; rw [hx1] at hg0; exact absurd hg0 (by decide)))) rfl rfl
              · obtain ⟨y, hy⟩ : ∃ y, e.names = [y] := List.length_eq_one_iff.1 (by simp at hg56; omega)
                obtain ⟨bn, on_, csn, Tn, fn_, hnp, hbn, hln, hrn⟩ := Rd.row nameC_len (by decide) hok.2.1 (i := 0) (x := y) (by rw [hy]; rfl)
                refine Dr.w rfl rfl rfl rfl (q_move rfl) ?_
                refine Dr.w rfl rfl rfl rfl (q_nil rfl) ?_
                refine Dr.w rfl rfl rfl rfl (q_fieldAddr fo_39_7 rfl rfl) ?_
                refine Dr.r rfl rfl rfl rfl (Sub.rfl' _) (q_load1 ac_37 rfl (hS.ro 2 rfl _ _ hb) (row_cell hr 17 rfl)) ?_
                refine Dr.w rfl rfl rfl rfl (q_indexAt se_37 rfl hnp (show _ = some (Value.int .i64 ((0 : Nat) : Int)) from rfl) hln rfl) ?_
                refine Dr.w rfl rfl rfl rfl (q_fieldAddr fo_124_0 rfl rfl) ?_
                refine Dr.r rfl rfl rfl rfl (Sub.rfl' _) (q_load1 ac_3 rfl (hS.ro 2 rfl _ _ hbn) (row_cell hrn 0 rfl)) ?_
                refine Dr.w rfl rfl rfl rfl (q_move rfl) ?_
                refine Dr.w rfl rfl rfl rfl (q_nil rfl) ?_
                refine Dr.w rfl rfl rfl rfl (q_fieldAddr fo_39_1 rfl rfl) ?_
                refine Dr.r rfl rfl rfl rfl (Sub.rfl' _) (q_load1 ac_3 rfl (hS.ro 2 rfl _ _ hb) (row_cell hr 1 rfl)) ?_
                refine Dr.w rfl rfl rfl rfl (q_ine rfl rfl) ?_
                refine Dr.w rfl rfl rfl rfl (q_pickF rfl rfl) ?_
                refine Dr.w rfl rfl rfl rfl (q_move rfl) ?_
                refine Dr.split (d := 70) rfl (fun hg70 => ?_) (fun hg70 => ?_)
                · skip
                  refine Dr.skip rfl rfl rfl rfl ?_
                  refine Dr.skip rfl rfl rfl rfl ?_
                  refine Dr.skip rfl rfl rfl rfl ?_
                  refine Dr.skip rfl rfl rfl rfl ?_
                  refine Dr.skip rfl rfl rfl rfl ?_
                  refine Dr.skip rfl rfl rfl rfl ?_
                  refine Dr.skip rfl rfl rfl rfl ?_
                  refine Dr.skip rfl rfl rfl rfl ?_
                  refine Dr.skip rfl rfl rfl rfl ?_
                  refine Dr.skip rfl rfl rfl rfl ?_
                  refine Dr.skip rfl rfl rfl rfl ?_
                  refine Dr.skip rfl rfl rfl rfl ?_
                  refine Dr.skip rfl rfl rfl rfl ?_
                  refine Dr.skip rfl rfl rfl rfl ?_
                  refine Dr.skip rfl rfl rfl rfl ?_
                  refine Dr.w rfl rfl rfl rfl (q_pickT rfl rfl) ?_
                  refine Dr.w rfl rfl rfl rfl (q_move rfl) ?_
                  refine Dr.skip rfl rfl rfl rfl ?_
                  refine Dr.skip rfl rfl rfl rfl ?_
                  refine Dr.skip rfl rfl rfl rfl ?_
                  refine Dr.skip rfl rfl rfl rfl ?_
                  refine Dr.skip rfl rfl rfl rfl ?_
                  refine Dr.skip rfl rfl rfl rfl ?_
                  refine Dr.skip rfl rfl rfl rfl ?_
                  refine Dr.skip rfl rfl rfl rfl ?_
                  refine Dr.skip rfl rfl rfl rfl ?_
                  refine Dr.skip rfl rfl rfl rfl ?_
                  refine Dr.skip rfl rfl rfl rfl ?_
                  refine Dr.skip rfl rfl rfl rfl ?_
                  refine Dr.w rfl rfl rfl rfl (q_pickT rfl rfl) ?_
                  exact Dr.meet 70 [2, 28, 0, 1, 2, 33, 34] hk2_67 rfl (by first | (cases s6 with | none => rfl | some r => (simp at hg42; done)) | (simp only [mineBad, hg35, hg42, hg48, hg56, hg70, Bool.true_or]; done) | (simp only [mineBad, hg35, hg42, hg48, hg56, hg70, hy, bne, Bool.true_or, Bool.false_or]; done) | (simp only [mineBad, hg35, hg42, hg48, hg56, hg70, hy, Bool.true_or, Bool.false_or]; done) | (simp only [mineBad, hg35, hg42, hg48, hg56, hg70, hy, Bool.true_or, Bool.false_or]; rfl) | (simp only [mineBad, hg35, hg42, hg48, hg56, hg70, Bool.false_or]; split <;> first | rfl | (simp_all; done) | (rename_i hx; exfalso; have hx1 := congrArg List.length hx; simp only [List.length_cons, List.length_nil, Nat.zero_add] at hx1; have hg0 := hg56; rw [hx1] at hg0; exact absurd hg0 (by decide)))) rfl rfl
                · skip
                  refine Dr.w rfl rfl rfl rfl (q_move rfl) ?_
                  refine Dr.w rfl rfl rfl rfl (q_nil rfl) ?_
                  refine Dr.w rfl rfl rfl rfl (q_fieldAddr fo_101_6 rfl rfl) ?_
                  refine Dr.r rfl rfl rfl rfl (Sub.rfl' _) (q_load1 ac_63 rfl hst rfl) ?_
                  refine Dr.w rfl rfl rfl rfl (q_nil rfl) ?_
                  refine Dr.w rfl rfl rfl rfl (q_fieldAddr fo_39_7 rfl rfl) ?_
                  refine Dr.r rfl rfl rfl rfl (Sub.rfl' _) (q_load1 ac_37 rfl (hS.ro 2 rfl _ _ hb3) (row_cell hr3 17 rfl)) ?_
                  refine Dr.w rfl rfl rfl rfl (q_move rfl) ?_
                  refine Dr.w rfl rfl rfl rfl (q_nil rfl) ?_
                  refine Dr.w rfl rfl rfl rfl (q_fieldAddr fo_39_7 rfl rfl) ?_
                  refine Dr.r rfl rfl rfl rfl (Sub.rfl' _) (q_load1 ac_37 rfl (hS.ro 2 rfl _ _ hb) (row_cell hr 17 rfl)) ?_
                  refine Dr.w rfl rfl rfl rfl (q_indexAt se_37 rfl hnp (show _ = some (Value.int .i64 ((0 : Nat) : Int)) from rfl) hln rfl) ?_
                  refine Dr.r rfl rfl rfl rfl (Sub.rfl' _) (q_loadA ac_124 rfl (hS.ro 2 rfl _ _ hbn) (row_partN hrn 0 2 (by decide) rfl rfl)) ?_
                  refine Dr.x rfl rfl rfl rfl (e_callF rfl rfl rfl ca_54 ((nco_spec _ _ _ _ _ y (Rd.up hokv.2.1 (hS.ro 2 rfl)) (by have := hokv.2.2; omega)).mono fun v84 τ84 h84 => ?_))
                  obtain ⟨rfl, rfl⟩ := h84
                  refine ⟨.inr (Sub.rfl' _), ?_⟩
                  refine Dr.w rfl rfl rfl rfl (q_not rfl) ?_
                  refine Dr.w rfl rfl rfl rfl (q_pickF rfl rfl) ?_
                  refine Dr.w rfl rfl rfl rfl (q_move rfl) ?_
                  refine Dr.split (d := 87) rfl (fun hg87 => ?_) (fun hg87 => ?_)
                  · skip
                    refine Dr.skip rfl rfl rfl rfl ?_
                    refine Dr.skip rfl rfl rfl rfl ?_
                    refine Dr.skip rfl rfl rfl rfl ?_
                    refine Dr.skip rfl rfl rfl rfl ?_
                    refine Dr.skip rfl rfl rfl rfl ?_
                    refine Dr.skip rfl rfl rfl rfl ?_
                    refine Dr.skip rfl rfl rfl rfl ?_
                    refine Dr.skip rfl rfl rfl rfl ?_
                    refine Dr.skip rfl rfl rfl rfl ?_
                    refine Dr.skip rfl rfl rfl rfl ?_
                    refine Dr.skip rfl rfl rfl rfl ?_
                    refine Dr.skip rfl rfl rfl rfl ?_
                    refine Dr.w rfl rfl rfl rfl (q_pickT rfl rfl) ?_
                    exact Dr.meet 71 [2, 28, 0, 1, 2, 33, 34] hk2_67 rfl (by first | (cases s6 with | none => rfl | some r => (simp at hg42; done)) | (simp only [mineBad, hg35, hg42, hg48, hg56, hg70, hg87, Bool.true_or]; done) | (simp only [mineBad, hg35, hg42, hg48, hg56, hg70, hg87, hy, bne, Bool.true_or, Bool.false_or]; done) | (simp only [mineBad, hg35, hg42, hg48, hg56, hg70, hg87, hy, Bool.true_or, Bool.false_or]; done) | (simp only [mineBad, hg35, hg42, hg48, hg56, hg70, hg87, hy, Bool.true_or, Bool.false_or]; rfl) | (simp only [mineBad, hg35, hg42, hg48, hg56, hg70, hg87, Bool.false_or]; split <;> first | rfl | (simp_all; done) | (rename_i hx; exfalso; have hx1 := congrArg List.length hx; simp only [List.length_cons, List.length_nil, Nat.zero_add] at hx1; have hg0 := hg56; rw [hx1] at hg0; exact absurd hg0 (by decide)))) rfl rfl
                  · skip
                    refine Dr.w rfl rfl rfl rfl (q_move rfl) ?_
                    refine Dr.w rfl rfl rfl rfl (q_nil rfl) ?_
                    refine Dr.w rfl rfl rfl rfl (q_fieldAddr fo_39_6 rfl rfl) ?_
                    refine Dr.r rfl rfl rfl rfl (Sub.rfl' _) (q_loadA ac_36 rfl (hS.ro 2 rfl _ _ hb) (row_partN hr 13 4 (by decide) rfl rfl)) ?_
                    refine Dr.w rfl rfl rfl rfl (q_move rfl) ?_
                    refine Dr.w rfl rfl rfl rfl (q_nil rfl) ?_
                    refine Dr.w rfl rfl rfl rfl (q_fieldAddr fo_101_6 rfl rfl) ?_
                    refine Dr.r rfl rfl rfl rfl (Sub.rfl' _) (q_load1 ac_63 rfl hst rfl) ?_
                    refine Dr.w rfl rfl rfl rfl (q_nil rfl) ?_
                    refine Dr.w rfl rfl rfl rfl (q_fieldAddr fo_39_6 rfl rfl) ?_
                    refine Dr.r rfl rfl rfl rfl (Sub.rfl' _) (q_loadA ac_36 rfl (hS.ro 2 rfl _ _ hb3) (row_partN hr3 13 4 (by decide) rfl rfl)) ?_
                    refine Dr.w rfl rfl rfl rfl (q_ane rfl rfl eg_36 (eq_36 e.view vv.view)) ?_
                    refine Dr.w rfl rfl rfl rfl (q_pickF rfl rfl) ?_
                    exact Dr.meet 71 [2, 28, 0, 1, 2, 33, 34] hk2_67 rfl (by first | (cases s6 with | none => rfl | some r => (simp at hg42; done)) | (simp only [mineBad, hg35, hg42, hg48, hg56, hg70, hg87, Bool.true_or]; done) | (simp only [mineBad, hg35, hg42, hg48, hg56, hg70, hg87, hy, bne, Bool.true_or, Bool.false_or]; done) | (simp only [mineBad, hg35, hg42, hg48, hg56, hg70, hg87, hy, Bool.true_or, Bool.false_or]; done) | (simp only [mineBad, hg35, hg42, hg48, hg56, hg70, hg87, hy, Bool.true_or, Bool.false_or]; rfl) | (simp only [mineBad, hg35, hg42, hg48, hg56, hg70, hg87, Bool.false_or]; split <;> first | rfl | (simp_all; done) | (rename_i hx; exfalso; have hx1 := congrArg List.length hx; simp only [List.length_cons, List.length_nil, Nat.zero_add] at hx1; have hg0 := hg56; rw [hx1] at hg0; exact absurd hg0 (by decide)))) rfl rfl
      · skip
        refine Dr.done ?_
        refine St.keep [2, 28, 0, 1, 2, 100] ?_
        show St _ _ _ [(100, _), (2, _), (28, _), (0, _), (1, _), (2, _)] _ _ _
        refine St.cond rfl (fun hc1 => ?_) (fun hc1 => ?_)
        · skip
          refine St.seq ?_
          refine St.region rfl ?_
          refine Reg.q rfl rfl rfl (q_move rfl) ?_
          refine Reg.x rfl rfl rfl (e_callF rfl rfl rfl ca_55 ((jwrong_spec _ _ _ _ _ _ _ hS _ _).mono fun v102 τ102 h102 => ?_))
          replace hS := h102
          refine Reg.done ?_
          refine St.keep [100, 2, 28, 0, 1, 2] ?_
          show St _ _ _ [(100, _), (2, _), (28, _), (0, _), (1, _), (2, _)] _ _ _
          refine St.ret Try.func48 .nil (Sub.rfl' _) ?_
          rw [hmine, JTr.mineOn, if_pos hc1]
          exact ⟨hS, (hJ.wrong 3 true).more⟩
        · skip
          refine St.skip ?_
          refine St.seq ?_
          refine St.region rfl ?_
          refine Reg.q rfl rfl rfl (q_move rfl) ?_
          refine Reg.q rfl rfl rfl (q_nil rfl) ?_
          refine Reg.q rfl rfl rfl (q_fieldAddr fo_39_0 rfl rfl) ?_
          refine Reg.q rfl rfl rfl (q_load1 ac_3 rfl (hS.ro 2 rfl _ _ hb) (row_cell hr 0 rfl)) ?_
          refine Reg.done ?_
          refine St.keep [100, 2, 28, 0, 1, 2, 106] ?_
          show St _ _ _ [(106, _), (100, _), (2, _), (28, _), (0, _), (1, _), (2, _)] _ _ _
          refine St.block ?_
          refine St.seq ?_
          refine St.region rfl ?_
          refine Reg.q rfl rfl rfl (q_ieq rfl rfl) ?_
          refine Reg.q rfl rfl rfl (q_assign rfl) ?_
          refine Reg.done ?_
          refine St.keep [106, 100, 2, 28, 0, 1, 2, 107] ?_
          show St _ _ _ [(107, _), (106, _), (100, _), (2, _), (28, _), (0, _), (1, _), (2, _)] _ _ _
          refine St.cond rfl (fun hc2 => ?_) (fun hc2 => ?_)
          · skip
            refine St.seq ?_
            refine St.region rfl ?_
            refine Reg.q rfl rfl rfl (q_move rfl) ?_
            refine Reg.q rfl rfl rfl (q_move rfl) ?_
            refine Reg.q rfl rfl rfl (q_nil rfl) ?_
            refine Reg.q rfl rfl rfl (q_fieldAddr fo_101_8 rfl rfl) ?_
            refine Reg.q rfl rfl rfl (q_load1 ac_63 rfl hst rfl) ?_
            refine Reg.q rfl rfl rfl (QOp.eq (v' := .bool s8.isSome) (q_pnen Try.underlying63 rfl rfl) (by cases s8 <;> rfl)) ?_
            refine Reg.x rfl rfl rfl (e_callF rfl rfl rfl ca_55 ((jwrong_spec _ _ _ _ _ _ _ hS _ _).mono fun v115 τ115 h115 => ?_))
            replace hS := h115
            refine Reg.done ?_
            refine St.keep [107, 106, 100, 2, 28, 0, 1, 2] ?_
            show St _ _ _ [(107, _), (106, _), (100, _), (2, _), (28, _), (0, _), (1, _), (2, _)] _ _ _
            replace hS : Stars (_ :: _ :: _ :: rs) _ := hS.top 1 rfl
            obtain ⟨gp, gc, up, uc, hS'⟩ := stays_open hS hbk hs
            simp only [stayC] at hS'
            replace hS := hS'
            refine St.region rfl ?_
            refine Reg.q rfl rfl rfl (q_move rfl) ?_
            refine Reg.q rfl rfl rfl (q_move rfl) ?_
            refine Reg.q rfl rfl rfl (q_nil rfl) ?_
            refine Reg.q rfl rfl rfl (q_fieldAddr fo_101_8 rfl rfl) ?_
            refine Reg.no rfl rfl (e_store rfl rfl sz_63 rfl (hS.pt 0 rfl) (Nat.le_of_ble_eq_true rfl) rfl (storeN_row rfl) (fun τs7_4 hs7_4 hu7_4 => ?_))
            replace hS : Stars (_ :: _ :: _ :: _ :: _ :: _ :: rs) _ := (hS.top 0 rfl).ptU hu7_4 hs7_4
            refine Reg.done ?_
            refine St.keep [107, 106, 100, 2, 28, 0, 1, 2] ?_
            show St _ _ _ [(107, _), (106, _), (100, _), (2, _), (28, _), (0, _), (1, _), (2, _)] _ _ _
            refine St.inBlock ?_
            refine St.fin Try.func48 .nil (Sub.rfl' _) ?_
            replace hS := stays_close (s := ⟨s0, s1, s2, s3, s4, s5, s6, s7, some (i, e), s9, s10, s11⟩) hS hbk hklt
            replace hS : Stars (_ :: _ :: _ :: rs) _ := hS.top 2 rfl
            replace hS : Stars (_ :: _ :: _ :: rs) _ := hS.top 1 rfl
            replace hS : Stars (_ :: _ :: _ :: rs) _ := hS.top 2 rfl
            rw [hmine, JTr.mineOn, if_neg (by rw [hc1]; decide), if_pos (by simpa using hc2)]
            refine ⟨?_, (hJ.wrong 3 s8.isSome).mod fun s' hs' => ?_⟩
            · rw [mod_some (J := J.wrong 3 s8.isSome) hs]; exact hS
            · have := Option.some.inj (hs'.symm.trans hs)
              subst this
              exact ⟨⟨hwf.trans, hwf.next, hwf.view, fun j x hj => by simp only [Option.some.injEq, Prod.mk.injEq] at hj; obtain ⟨rfl, rfl⟩ := hj; exact hi, hwf.gots, hwf.ups, hwf.before, hwf.tr⟩, by simp only []; omega, by simp only []; omega⟩
          · skip
            refine St.seq ?_
            refine St.region rfl ?_
            refine Reg.q rfl rfl rfl (q_ieq rfl rfl) ?_
            refine Reg.q rfl rfl rfl (q_assign rfl) ?_
            refine Reg.done ?_
            refine St.keep [107, 106, 100, 2, 28, 0, 1, 2, 120] ?_
            show St _ _ _ [(120, _), (107, _), (106, _), (100, _), (2, _), (28, _), (0, _), (1, _), (2, _)] _ _ _
            refine St.cond rfl (fun hc3 => ?_) (fun hc3 => ?_)
            · skip
              refine St.region rfl ?_
              refine Reg.q rfl rfl rfl (q_move rfl) ?_
              refine Reg.q rfl rfl rfl (q_move rfl) ?_
              refine Reg.q rfl rfl rfl (q_nil rfl) ?_
              refine Reg.q rfl rfl rfl (q_fieldAddr fo_101_8 rfl rfl) ?_
              refine Reg.q rfl rfl rfl (q_load1 ac_63 rfl hst rfl) ?_
              refine Reg.q rfl rfl rfl (QOp.eq (v' := .bool s8.isNone) (q_peqn Try.underlying63 rfl rfl) (by cases s8 <;> rfl)) ?_
              refine Reg.x rfl rfl rfl (e_callF rfl rfl rfl ca_55 ((jwrong_spec _ _ _ _ _ _ _ hS _ _).mono fun v128 τ128 h128 => ?_))
              replace hS := h128
              refine Reg.done ?_
              refine St.keep [120, 107, 106, 100, 2, 28, 0, 1, 2] ?_
              show St _ _ _ [(120, _), (107, _), (106, _), (100, _), (2, _), (28, _), (0, _), (1, _), (2, _)] _ _ _
              refine St.inBlock ?_
              refine St.fin Try.func48 .nil (Sub.rfl' _) ?_
              have h11 : ¬ e.kind = 11 := by simpa using hc2
              rw [hmine, JTr.mineOn, if_neg (by rw [hc1]; decide), if_neg h11, if_pos (by simpa using hc3)]
              exact ⟨hS, (hJ.wrong 3 s8.isNone).more⟩
            · skip
              refine St.seq ?_
              refine St.region rfl ?_
              refine Reg.q rfl rfl rfl (q_ieq rfl rfl) ?_
              refine Reg.q rfl rfl rfl (q_assign rfl) ?_
              refine Reg.done ?_
              refine St.keep [120, 107, 106, 100, 2, 28, 0, 1, 2, 129] ?_
              show St _ _ _ [(129, _), (120, _), (107, _), (106, _), (100, _), (2, _), (28, _), (0, _), (1, _), (2, _)] _ _ _
              refine St.cond rfl (fun hc4 => ?_) (fun hc4 => ?_)
              · skip
                refine St.seq ?_
                refine St.region rfl ?_
                refine Reg.q rfl rfl rfl (q_move rfl) ?_
                refine Reg.q rfl rfl rfl (q_move rfl) ?_
                refine Reg.q rfl rfl rfl (q_nil rfl) ?_
                refine Reg.q rfl rfl rfl (q_fieldAddr fo_101_8 rfl rfl) ?_
                refine Reg.q rfl rfl rfl (q_load1 ac_63 rfl hst rfl) ?_
                refine Reg.q rfl rfl rfl (QOp.eq (v' := .bool s8.isNone) (q_peqn Try.underlying63 rfl rfl) (by cases s8 <;> rfl)) ?_
                refine Reg.x rfl rfl rfl (e_callF rfl rfl rfl ca_55 ((jwrong_spec _ _ _ _ _ _ _ hS _ _).mono fun v137 τ137 h137 => ?_))
                replace hS := h137
                refine Reg.done ?_
                refine St.keep [129, 120, 107, 106, 100, 2, 28, 0, 1, 2] ?_
                show St _ _ _ [(129, _), (120, _), (107, _), (106, _), (100, _), (2, _), (28, _), (0, _), (1, _), (2, _)] _ _ _
                replace hS : Stars (_ :: _ :: _ :: rs) _ := hS.top 1 rfl
                obtain ⟨gp, gc, up, uc, hS'⟩ := stays_open hS hbk hs
                simp only [stayC] at hS'
                replace hS := hS'
                refine St.draw0 [10, 13] [(0, .w), (1, .w), (2, .w), (3, .w), (4, .r), (5, .w), (6, .w), (7, .w), (8, .r), (9, .x), (10, .x), (11, .w), (12, .w), (13, .x)] mixed (by kernel_rfl) rfl ?_
                refine Dr.w rfl rfl rfl rfl (q_move rfl) ?_
                refine Dr.w rfl rfl rfl rfl (q_move rfl) ?_
                refine Dr.w rfl rfl rfl rfl (q_nil rfl) ?_
                refine Dr.w rfl rfl rfl rfl (q_fieldAddr fo_101_9 rfl rfl) ?_
                refine Dr.r rfl rfl rfl rfl (Sub.rfl' _) (q_load1 ac_60 rfl (hS.pt 0 rfl) rfl) ?_
                refine Dr.w rfl rfl rfl rfl (q_move rfl) ?_
                refine Dr.w rfl rfl rfl rfl (q_nil rfl) ?_
                refine Dr.w rfl rfl rfl rfl (q_fieldAddr fo_39_5 rfl rfl) ?_
                refine Dr.r rfl rfl rfl rfl (Sub.rfl' _) (q_loadA ac_34 rfl (hS.ro 5 rfl _ _ hb) (row_partN hr 7 6 (by decide) rfl rfl)) ?_
                refine Dr.x rfl rfl rfl rfl (e_buildSlice so_60 zo_34 zr_34_1 rfl rfl rfl (fillN_fill rfl) (fun b147 τ147 hb147 => ⟨.inr hb147.sub, ?_⟩))
                replace hS : Stars (_ :: _ :: _ :: _ :: _ :: _ :: _ :: rs) _ := hS.fresh hb147
                refine Dr.x rfl rfl rfl rfl (e_append rfl Try.underlying60 Try.underlying60 sb_34 zo_34 rfl rfl rfl (hS.own 3 rfl) (Rd.lit (hS.pt 0 rfl) rfl) (.inl (by omega)) (allFlat_mem rfl) (by omega) (by omega) (fun b148 o148 c148 τ148 hf148 hu148 ho148 => ⟨.inl rfl, ?_⟩))
                replace hS : Stars (_ :: _ :: _ :: _ :: _ :: _ :: _ :: rs) _ := (hS.top 3 rfl).ownU hf148 hu148 ho148
                refine Dr.w rfl rfl rfl rfl (q_nil rfl) ?_
                refine Dr.w rfl rfl rfl rfl (q_fieldAddr fo_101_9 rfl rfl) ?_
                refine Dr.no rfl rfl rfl (e_store rfl rfl sz_60 rfl (hS.pt 2 rfl) (Nat.le_of_ble_eq_true rfl) rfl (storeN_row rfl) (fun τs12_13 hs12_13 hu12_13 => ⟨.inl rfl, ?_⟩))
                replace hS : Stars (_ :: _ :: _ :: _ :: _ :: _ :: _ :: rs) _ := (hS.top 2 rfl).ptU hu12_13 hs12_13
                refine Dr.done ?_
                refine St.keep [129, 120, 107, 106, 100, 2, 28, 0, 1, 2] ?_
                show St _ _ _ [(129, _), (120, _), (107, _), (106, _), (100, _), (2, _), (28, _), (0, _), (1, _), (2, _)] _ _ _
                refine St.inBlock ?_
                refine St.fin Try.func48 .nil (Sub.rfl' _) ?_
                replace hS : Stars (_ :: _ :: _ :: _ :: _ :: _ :: _ :: rs) _ := hS.top 1 rfl
                have e1 : (s9 ++ [e.m]).length = s9.length + 1 := by simp
                have e2 : (s9 ++ [e.m]).flatMap Msg.cells = s9.flatMap Msg.cells ++ e.m.cells := by simp
                replace hS : Stars (ownA 34 6 (some ⟨b148, o148, none⟩) (s9 ++ [e.m]).length c148 ((s9 ++ [e.m]).flatMap Msg.cells) :: _) _ := hS.imp fun h hx => by rw [e1, e2]; exact hx
                replace hS : Stars (_ :: _ :: _ :: _ :: _ :: _ :: _ :: rs) _ := hS.top 1 rfl
                replace hS : Stars (pt bk (.cells (stayC (some ⟨lb, lo, none⟩) bs ⟨s0, s1, s2, s3, s4, s5, s6, s7, s8, s9 ++ [e.m], s10, s11⟩ gp gc (some ⟨b148, o148, none⟩) c148) 101 (0, 0)) :: _) _ := hS.imp fun h hx => by simp only [stayC, e1]; exact hx
                replace hS : Stars (_ :: _ :: _ :: _ :: _ :: _ :: _ :: rs) _ := hS.top 2 rfl
                replace hS := hS.drop
                replace hS : Stars (_ :: _ :: _ :: _ :: _ :: _ :: rs) _ := hS.top 3 rfl
                replace hS : Stars (_ :: _ :: _ :: _ :: _ :: _ :: rs) _ := hS.top 2 rfl
                replace hS : Stars (_ :: _ :: _ :: _ :: _ :: _ :: rs) _ := hS.top 3 rfl
                replace hS : Stars (_ :: _ :: _ :: _ :: _ :: _ :: rs) _ := hS.top 3 rfl
                replace hS := stays_close (s := ⟨s0, s1, s2, s3, s4, s5, s6, s7, s8, s9 ++ [e.m], s10, s11⟩) hS hbk hklt
                replace hS : Stars (_ :: _ :: _ :: rs) _ := hS.top 2 rfl
                replace hS : Stars (_ :: _ :: _ :: rs) _ := hS.top 1 rfl
                replace hS : Stars (_ :: _ :: _ :: rs) _ := hS.top 2 rfl
                have h11 : ¬ e.kind = 11 := by simpa using hc2
                have h8 : ¬ e.kind = 8 := by simpa using hc3
                rw [hmine, JTr.mineOn, if_neg (by rw [hc1]; decide), if_neg h11, if_neg h8, if_pos (by simpa using hc4)]
                refine ⟨?_, (hJ.wrong 3 s8.isNone).mod fun s' hs' => ?_⟩
                · rw [mod_some (J := J.wrong 3 s8.isNone) hs]; exact hS
                · have := Option.some.inj (hs'.symm.trans hs)
                  subst this
                  refine ⟨⟨hwf.trans, hwf.next, hwf.view, hwf.ready, hwf.gots, fun m hm => ?_, hwf.before, hwf.tr⟩, by simp only []; omega, by simp; omega⟩
                  rcases List.mem_append.1 hm with h3 | h3
                  · exact hwf.ups m h3
                  · simp at h3; subst h3; exact ⟨e, List.mem_of_getElem? hi, rfl⟩
              · skip
                refine St.seq ?_
                refine St.region rfl ?_
                refine Reg.q rfl rfl rfl (q_ieq rfl rfl) ?_
                refine Reg.q rfl rfl rfl (q_assign rfl) ?_
                refine Reg.done ?_
                refine St.keep [129, 120, 107, 106, 100, 2, 28, 0, 1, 2, 151] ?_
                show St _ _ _ [(151, _), (129, _), (120, _), (107, _), (106, _), (100, _), (2, _), (28, _), (0, _), (1, _), (2, _)] _ _ _
                refine St.cond rfl (fun hc5 => ?_) (fun hc5 => ?_)
                · skip
                  replace hS : Stars (_ :: _ :: _ :: rs) _ := hS.top 1 rfl
                  obtain ⟨gp, gc, up, uc, hS'⟩ := stays_open hS hbk hs
                  simp only [stayC] at hS'
                  replace hS := hS'
                  refine St.region rfl ?_
                  refine Reg.q rfl rfl rfl (q_move rfl) ?_
                  refine Reg.q rfl rfl rfl (q_nil rfl) ?_
                  refine Reg.q rfl rfl rfl (q_fieldAddr fo_101_10 rfl rfl) ?_
                  refine Reg.no rfl rfl (e_store rfl rfl sz_4 rfl (hS.pt 0 rfl) (Nat.le_of_ble_eq_true rfl) rfl (storeN_row rfl) (fun τs14_3 hs14_3 hu14_3 => ?_))
                  replace hS : Stars (_ :: _ :: _ :: _ :: _ :: _ :: rs) _ := (hS.top 0 rfl).ptU hu14_3 hs14_3
                  refine Reg.done ?_
                  refine St.keep [151, 129, 120, 107, 106, 100, 2, 28, 0, 1, 2] ?_
                  show St _ _ _ [(151, _), (129, _), (120, _), (107, _), (106, _), (100, _), (2, _), (28, _), (0, _), (1, _), (2, _)] _ _ _
                  refine St.inBlock ?_
                  refine St.fin Try.func48 .nil (Sub.rfl' _) ?_
                  replace hS := stays_close (s := ⟨s0, s1, s2, s3, s4, s5, s6, s7, s8, s9, true, s11⟩) hS hbk hklt
                  replace hS : Stars (_ :: _ :: _ :: rs) _ := hS.top 2 rfl
                  replace hS : Stars (_ :: _ :: _ :: rs) _ := hS.top 1 rfl
                  replace hS : Stars (_ :: _ :: _ :: rs) _ := hS.top 2 rfl
                  have h11 : ¬ e.kind = 11 := by simpa using hc2
                  have h8 : ¬ e.kind = 8 := by simpa using hc3
                  have h9 : ¬ e.kind = 9 := by simpa using hc4
                  rw [hmine, JTr.mineOn, if_neg (by rw [hc1]; decide), if_neg h11, if_neg h8, if_neg h9, if_pos (by simpa using hc5)]
                  refine ⟨?_, hJ.mod fun s' hs' => ?_⟩
                  · rw [mod_some hs]; exact hS
                  · have := Option.some.inj (hs'.symm.trans hs)
                    subst this
                    exact ⟨⟨hwf.trans, hwf.next, hwf.view, hwf.ready, hwf.gots, hwf.ups, hwf.before, hwf.tr⟩, by simp only []; omega, by simp only []; omega⟩
                · skip
                  refine St.skip ?_
                  refine St.inBlock ?_
                  refine St.fin Try.func48 .nil (Sub.rfl' _) ?_
                  have h11 : ¬ e.kind = 11 := by simpa using hc2
                  have h8 : ¬ e.kind = 8 := by simpa using hc3
                  have h9 : ¬ e.kind = 9 := by simpa using hc4
                  have h12 : ¬ e.kind = 12 := by simpa using hc5
                  rw [hmine, JTr.mineOn, if_neg (by rw [hc1]; decide), if_neg h11, if_neg h8, if_neg h9, if_neg h12]
                  exact ⟨hS, hJ.more⟩
end Go.Proofs.Ytdgdbnkhmdncdaa
