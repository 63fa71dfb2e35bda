/- The judge: those that go on together. -/
import Derived.Test.YtdgdbnkhmdncdaaJ8
set_option linter.unusedSectionVars false
set_option linter.unusedSimpArgs false
set_option linter.unusedVariables false
namespace Go.Proofs.Ytdgdbnkhmdncdaa
open Go.Gw Go.Cs
variable [Env]
set_option maxHeartbeats 1000000
namespace FJ9
theorem ac_28 : aggCells Try.prog 28 = some none := by kernel_rfl
theorem ac_3 : aggCells Try.prog 3 = some none := by kernel_rfl
theorem ac_30 : aggCells Try.prog 30 = some (some 2) := by kernel_rfl
theorem ac_63 : aggCells Try.prog 63 = some none := by kernel_rfl
theorem ac_68 : aggCells Try.prog 68 = some none := by kernel_rfl
theorem ac_90 : aggCells Try.prog 90 = some none := by kernel_rfl
theorem ca_34 : callable Try.prog 34 = true := by kernel_rfl
theorem ca_35 : callable Try.prog 35 = true := by kernel_rfl
theorem ca_36 : callable Try.prog 36 = true := by kernel_rfl
theorem ca_37 : callable Try.prog 37 = true := by kernel_rfl
theorem ca_38 : callable Try.prog 38 = true := by kernel_rfl
theorem eg_30 : Try.prog.eqGuardType Try.prog.depth 30 = false := by kernel_rfl
theorem fo_101_0 : fieldOff Try.prog 101 0 = some 0 := by kernel_rfl
theorem fo_101_1 : fieldOff Try.prog 101 1 = some 1 := by kernel_rfl
theorem fo_101_4 : fieldOff Try.prog 101 4 = some 5 := by kernel_rfl
theorem fo_101_5 : fieldOff Try.prog 101 5 = some 6 := by kernel_rfl
theorem fo_39_3 : fieldOff Try.prog 39 3 = some 4 := by kernel_rfl
theorem fo_39_4 : fieldOff Try.prog 39 4 = some 6 := by kernel_rfl
theorem fo_70_1 : fieldOff Try.prog 70 1 = some 1 := by kernel_rfl
theorem se_68 : sliceElem Try.prog 68 = some 1 := by kernel_rfl
end FJ9
open FJ9

theorem StaysIs.ptr {ρ : Heap} {es : List Ev} {p sp : Option Addr} {bs : List Nat} {ss : List JSt} (h : StaysIs ρ es p sp bs ss) {i : Nat} (hi : i < ss.length) : ∃ b s b1 o1 cs1 T1 f1, ss[i]? = some s ∧ bs[i]? = some b ∧ sp = some ⟨b1, o1, none⟩ ∧ ρ b1 = some (.cells cs1 T1 f1) ∧ row cs1 (o1 + i * 1) 1 = some (ptrC b) := by
  have hb : i < bs.length := by rw [h.len]; exact hi
  obtain ⟨b1, o1, cs1, T1, f1, e1, hb1, hl1, hr1⟩ := Rd.row ptrC_len (by decide) h.rd (List.getElem?_eq_getElem hb)
  exact ⟨_, _, b1, o1, cs1, T1, f1, List.getElem?_eq_getElem hi, List.getElem?_eq_getElem hb, e1, hb1, hr1⟩

theorem jtogether_spec (σ ρ : Heap) (rs : List Asr) (es : List Ev) (p sp : Option Addr) (c sc : Nat) (hT : TraceIs ρ p es) (hes : es.length ≤ 100000) (bs : List Nat) (ss : List JSt) (hA : StaysIs ρ es p sp bs ss) (tb mb : Nat) (nm : Int) (f : Int → Bool) (al : List (Int × Value)) (hbad : BadIs al f) (hS : Stars (pt tb (.cells (traceC p es.length c sp ss.length sc mb nm) 70 (0, 0)) :: mapA encI mb al :: ro ρ :: rs) σ) (hcap : ss.length ≤ sc) : Does Try.prog 21 #[.pointer (some ⟨tb, 0, none⟩)] σ (fun v τ => ∃ al', Stars (pt tb (.cells (traceC p es.length c sp ss.length sc mb nm) 70 (0, 0)) :: mapA encI mb al' :: ro ρ :: rs) τ ∧ BadIs al' (fun q => (f q || (q == 5 && tog5 ss ss.length)) || (q == 6 && tog6 ss ss.length))) := by
  refine Does.enter (n := 159) (l := [(0, _)]) Try.func21 rfl rfl (by simp) rfl ?_
  have hfew := hA.few.1
  refine St.seq ?_
  refine St.region rfl ?_
  refine Reg.q rfl rfl rfl (q_move rfl) ?_
  refine Reg.q rfl rfl rfl (q_nil rfl) ?_
  refine Reg.q rfl rfl rfl (q_fieldAddr fo_70_1 rfl rfl) ?_
  refine Reg.q rfl rfl rfl (q_load1 ac_68 rfl (hS.pt 0 rfl) rfl) ?_
  refine Reg.q rfl rfl rfl (q_lenS rfl se_68 rfl) ?_
  refine Reg.q rfl rfl rfl (q_move rfl) ?_
  refine Reg.done ?_
  refine St.keep [0, 11, 12, 13] ?_
  show St _ _ _ [(13, _), (12, _), (11, _), (0, _)] _ _ _
  refine St.block ?_
  refine St.loopw (Y := Nat × List (Int × Value)) (fun y => [(13, .int .i64 (y.1 : Nat))]) [12, 11, 0] (fun y τ => Stars (pt tb (.cells (traceC p es.length c sp ss.length sc mb nm) 70 (0, 0)) :: mapA encI mb y.2 :: ro ρ :: rs) τ ∧ y.1 ≤ ss.length ∧ BadIs y.2 (fun q => (f q || (q == 5 && tog5 ss y.1)) || (q == 6 && tog6 ss y.1))) (fun y => ss.length - y.1) ((0, al)) rfl (⟨hS, Nat.zero_le _, hbad.congr (fun q => by simp [tog5, tog6])⟩) ?_
  intro ⟨i, al⟩ τ ⟨hS, hi, hbad⟩ back
  simp only [] at hS hi hbad
  show St _ _ _ [(13, _), (12, _), (11, _), (0, _)] _ _ _
  refine St.seq ?_
  refine St.region rfl ?_
  refine Reg.q rfl rfl rfl (q_lt rfl rfl) ?_
  refine Reg.done ?_
  refine St.keep [13, 12, 11, 0, 14] ?_
  show St _ _ _ [(14, _), (13, _), (12, _), (11, _), (0, _)] _ _ _
  refine St.seq ?_
  refine St.cond rfl (fun hc0 => ?_) (fun hc0 => ?_)
  · simp at hc0
    obtain ⟨ba, a, b1, o1, cs1, T1, f1, ha, hba, hsp, hb1, hr1⟩ := hA.ptr hc0
    obtain ⟨gpa, gca, upa, uca, hsta, hrda⟩ := hA.at_ i ba a hba ha
    have hsma := List.mem_of_getElem? ha
    have hwa := hA.wf a hsma
    have hla := hA.few.2 a hsma
    refine St.skip ?_
    refine St.seq ?_
    refine St.block ?_
    refine St.seq ?_
    refine St.region rfl ?_
    refine Reg.q rfl rfl rfl (q_move rfl) ?_
    refine Reg.q rfl rfl rfl (q_indexAt se_68 rfl hsp rfl (by omega) rfl) ?_
    refine Reg.q rfl rfl rfl (q_load1 ac_90 rfl (hS.ro 2 rfl _ _ hb1) (row_cell hr1 0 rfl)) ?_
    refine Reg.q rfl rfl rfl (q_assign rfl) ?_
    refine Reg.q rfl rfl rfl (q_assign rfl) ?_
    refine Reg.done ?_
    refine St.keep [14, 13, 12, 11, 0, 2, 3] ?_
    show St _ _ _ [(3, _), (2, _), (14, _), (13, _), (12, _), (11, _), (0, _)] _ _ _
    refine St.seq ?_
    refine St.seq ?_
    refine St.region rfl ?_
    refine Reg.q rfl rfl rfl (q_move rfl) ?_
    refine Reg.q rfl rfl rfl (q_nil rfl) ?_
    refine Reg.q rfl rfl rfl (q_fieldAddr fo_70_1 rfl rfl) ?_
    refine Reg.q rfl rfl rfl (q_load1 ac_68 rfl (hS.pt 0 rfl) rfl) ?_
    refine Reg.q rfl rfl rfl (q_move rfl) ?_
    refine Reg.q rfl rfl rfl (q_sliceTo se_68 rfl (by intro a ha; rw [hsp] at ha; cases ha; rfl) rfl (by omega)) ?_
    refine Reg.q rfl rfl rfl (q_lenS rfl se_68 rfl) ?_
    refine Reg.q rfl rfl rfl (q_move rfl) ?_
    refine Reg.done ?_
    refine St.keep [3, 2, 14, 13, 12, 11, 0, 23, 24, 25] ?_
    show St _ _ _ [(25, _), (24, _), (23, _), (3, _), (2, _), (14, _), (13, _), (12, _), (11, _), (0, _)] _ _ _
    refine St.block ?_
    refine St.loopw (Y := Nat × List (Int × Value)) (fun y => [(25, .int .i64 (y.1 : Nat))]) [24, 23, 3, 2, 14, 13, 12, 11, 0] (fun y τ => Stars (pt tb (.cells (traceC p es.length c sp ss.length sc mb nm) 70 (0, 0)) :: mapA encI mb y.2 :: ro ρ :: rs) τ ∧ y.1 ≤ i ∧ BadIs y.2 (fun q => ((f q || (q == 5 && tog5 ss i)) || (q == 6 && tog6 ss i)) || (q == 5 && (ss.take y.1).any fun b => pairB a b))) (fun y => i - y.1) ((0, al)) rfl (⟨hS, Nat.zero_le _, hbad.congr (fun q => by simp)⟩) ?_
    intro ⟨k, al⟩ τ ⟨hS, hk, hbad⟩ back1
    simp only [] at hS hk hbad
    show St _ _ _ [(25, _), (24, _), (23, _), (3, _), (2, _), (14, _), (13, _), (12, _), (11, _), (0, _)] _ _ _
    refine St.seq ?_
    refine St.region rfl ?_
    refine Reg.q rfl rfl rfl (q_lt rfl rfl) ?_
    refine Reg.done ?_
    refine St.keep [25, 24, 23, 3, 2, 14, 13, 12, 11, 0, 26] ?_
    show St _ _ _ [(26, _), (25, _), (24, _), (23, _), (3, _), (2, _), (14, _), (13, _), (12, _), (11, _), (0, _)] _ _ _
    refine St.seq ?_
    refine St.cond rfl (fun hc1 => ?_) (fun hc1 => ?_)
    · simp at hc1
      obtain ⟨bb, b, b2, o2, cs2, T2, f2, hb, hbb, hsp2, hb2, hr2⟩ := hA.ptr (show k < ss.length by omega)
      obtain ⟨gpb, gcb, upb, ucb, hstb, hrdb⟩ := hA.at_ k bb b hbb hb
      have hsmb := List.mem_of_getElem? hb
      have hwb := hA.wf b hsmb
      have hlb := hA.few.2 b hsmb
      refine St.skip ?_
      refine St.seq ?_
      refine St.block ?_
      refine St.seq ?_
      refine St.region rfl ?_
      refine Reg.q rfl rfl rfl (q_indexAt se_68 rfl hsp2 rfl (by omega) rfl) ?_
      refine Reg.q rfl rfl rfl (q_load1 ac_90 rfl (hS.ro 2 rfl _ _ hb2) (row_cell hr2 0 rfl)) ?_
      refine Reg.q rfl rfl rfl (q_assign rfl) ?_
      refine Reg.done ?_
      refine St.keep [26, 25, 24, 23, 3, 2, 14, 13, 12, 11, 0, 5] ?_
      show St _ _ _ [(5, _), (26, _), (25, _), (24, _), (23, _), (3, _), (2, _), (14, _), (13, _), (12, _), (11, _), (0, _)] _ _ _
      refine St.seq ?_
      refine St.seq ?_
      refine St.draw0 [] [(0, .w), (1, .w), (2, .w), (3, .r), (4, .w), (5, .w), (6, .w), (7, .r), (8, .w), (9, .w), (10, .w), (11, .w), (12, .w), (13, .r), (14, .w), (15, .w), (16, .w), (17, .r), (18, .w), (19, .w), (20, .w), (21, .w), (22, .w), (23, .w), (24, .r), (25, .w), (26, .w), (27, .w), (28, .w), (29, .w), (30, .w), (31, .r), (32, .w), (33, .w), (34, .w), (35, .w), (36, .w), (37, .w), (38, .r), (39, .w), (40, .w), (41, .w), (42, .w), (43, .w), (44, .w), (45, .r), (46, .w), (47, .w), (48, .w), (49, .w), (50, .w), (51, .w), (52, .r), (53, .w), (54, .w), (55, .r), (56, .w), (57, .w), (58, .w), (59, .r), (60, .w), (61, .w), (62, .r), (63, .w), (64, .w)] mixed (by kernel_rfl) rfl ?_
      refine Dr.w rfl rfl rfl rfl (q_move rfl) ?_
      refine Dr.w rfl rfl rfl rfl (q_nil rfl) ?_
      refine Dr.w rfl rfl rfl rfl (q_fieldAddr fo_101_1 rfl rfl) ?_
      refine Dr.r rfl rfl rfl rfl (Sub.rfl' _) (q_loadA ac_30 rfl (hS.ro 2 rfl _ _ hsta) (rowN_row rfl)) ?_
      refine Dr.w rfl rfl rfl rfl (q_move rfl) ?_
      refine Dr.w rfl rfl rfl rfl (q_nil rfl) ?_
      refine Dr.w rfl rfl rfl rfl (q_fieldAddr fo_101_1 rfl rfl) ?_
      refine Dr.r rfl rfl rfl rfl (Sub.rfl' _) (q_loadA ac_30 rfl (hS.ro 2 rfl _ _ hstb) (rowN_row rfl)) ?_
      refine Dr.w rfl rfl rfl rfl (q_ane rfl rfl eg_30 (eq_30 a.conf b.conf)) ?_
      refine Dr.w rfl rfl rfl rfl (q_move rfl) ?_
      refine Dr.joinv 48 (.bool (a.conf != b.conf || a.proc == b.proc)) 10 [5, 26, 25, 24, 23, 3, 2, 14, 13, 12, 11, 0, 29, 30, 31, 32, 33, 34, 35, 36, 37] (fun hk6_19 => ?_) ?_
      · skip
        refine Dr.split (d := 38) rfl (fun hg38 => ?_) (fun hg38 => ?_)
        · skip
          refine Dr.skip rfl rfl rfl rfl ?_
          refine Dr.skip rfl rfl rfl rfl ?_
          refine Dr.skip rfl rfl rfl rfl ?_
          refine Dr.skip rfl rfl rfl rfl ?_
          refine Dr.skip rfl rfl rfl rfl ?_
          refine Dr.skip rfl rfl rfl rfl ?_
          refine Dr.skip rfl rfl rfl rfl ?_
          refine Dr.skip rfl rfl rfl rfl ?_
          refine Dr.skip rfl rfl rfl rfl ?_
          refine Dr.w rfl rfl rfl rfl (q_pickT rfl rfl) ?_
          exact Dr.meet 11 [5, 26, 25, 24, 23, 3, 2, 14, 13, 12, 11, 0, 29, 30, 31, 32, 33, 34, 35, 36, 37] hk6_19 rfl (by simp only [bne, hg38, Bool.true_or, Bool.false_or]) rfl rfl
        · skip
          refine Dr.w rfl rfl rfl rfl (q_move rfl) ?_
          refine Dr.w rfl rfl rfl rfl (q_nil rfl) ?_
          refine Dr.w rfl rfl rfl rfl (q_fieldAddr fo_101_0 rfl rfl) ?_
          refine Dr.r rfl rfl rfl rfl (Sub.rfl' _) (q_load1 ac_3 rfl (hS.ro 2 rfl _ _ hsta) rfl) ?_
          refine Dr.w rfl rfl rfl rfl (q_move rfl) ?_
          refine Dr.w rfl rfl rfl rfl (q_nil rfl) ?_
          refine Dr.w rfl rfl rfl rfl (q_fieldAddr fo_101_0 rfl rfl) ?_
          refine Dr.r rfl rfl rfl rfl (Sub.rfl' _) (q_load1 ac_3 rfl (hS.ro 2 rfl _ _ hstb) rfl) ?_
          refine Dr.w rfl rfl rfl rfl (q_ieq rfl rfl) ?_
          refine Dr.w rfl rfl rfl rfl (q_pickF rfl rfl) ?_
          exact Dr.meet 11 [5, 26, 25, 24, 23, 3, 2, 14, 13, 12, 11, 0, 29, 30, 31, 32, 33, 34, 35, 36, 37] hk6_19 rfl (by simp only [bne, hg38, Bool.true_or, Bool.false_or]) rfl rfl
      · skip
        refine Dr.w rfl rfl rfl rfl (q_move rfl) ?_
        refine Dr.joinv 55 (.bool (a.conf != b.conf || a.proc == b.proc || a.next.isNone)) 6 [5, 26, 25, 24, 23, 3, 2, 14, 13, 12, 11, 0, 29, 30, 31, 32, 33, 34, 35, 36, 37, 48] (fun hk6_26 => ?_) ?_
        · skip
          refine Dr.split (d := 49) rfl (fun hg49 => ?_) (fun hg49 => ?_)
          · skip
            refine Dr.skip rfl rfl rfl rfl ?_
            refine Dr.skip rfl rfl rfl rfl ?_
            refine Dr.skip rfl rfl rfl rfl ?_
            refine Dr.skip rfl rfl rfl rfl ?_
            refine Dr.skip rfl rfl rfl rfl ?_
            refine Dr.w rfl rfl rfl rfl (q_pickT rfl rfl) ?_
            exact Dr.meet 7 [5, 26, 25, 24, 23, 3, 2, 14, 13, 12, 11, 0, 29, 30, 31, 32, 33, 34, 35, 36, 37, 48] hk6_26 rfl (by simp only [hg49, Bool.true_or, Bool.false_or, Bool.true_and, Bool.false_and, Bool.not_true, Bool.not_false]) rfl rfl
          · skip
            refine Dr.w rfl rfl rfl rfl (q_move rfl) ?_
            refine Dr.w rfl rfl rfl rfl (q_nil rfl) ?_
            refine Dr.w rfl rfl rfl rfl (q_fieldAddr fo_101_5 rfl rfl) ?_
            refine Dr.r rfl rfl rfl rfl (Sub.rfl' _) (q_load1 ac_63 rfl (hS.ro 2 rfl _ _ hsta) rfl) ?_
            refine Dr.w rfl rfl rfl rfl (QOp.eq (v' := .bool a.next.isNone) (q_peqn Try.underlying63 rfl rfl) (by show _ = Value.bool _; cases hz : a.next with | none => simp [Cs.evp] | some r => (obtain ⟨lb, lo, cs, TT, fz, hp, _⟩ := hT.row (hwa.next r.1 r.2 hz); simp [Cs.evp, hp]))) ?_
            refine Dr.w rfl rfl rfl rfl (q_pickF rfl rfl) ?_
            exact Dr.meet 7 [5, 26, 25, 24, 23, 3, 2, 14, 13, 12, 11, 0, 29, 30, 31, 32, 33, 34, 35, 36, 37, 48] hk6_26 rfl (by simp only [hg49, Bool.true_or, Bool.false_or, Bool.true_and, Bool.false_and, Bool.not_true, Bool.not_false]) rfl rfl
        · skip
          refine Dr.w rfl rfl rfl rfl (q_move rfl) ?_
          refine Dr.joinv 62 (.bool (a.conf != b.conf || a.proc == b.proc || a.next.isNone || b.next.isNone)) 6 [5, 26, 25, 24, 23, 3, 2, 14, 13, 12, 11, 0, 29, 30, 31, 32, 33, 34, 35, 36, 37, 48, 55] (fun hk6_33 => ?_) ?_
          · skip
            refine Dr.split (d := 56) rfl (fun hg56 => ?_) (fun hg56 => ?_)
            · skip
              refine Dr.skip rfl rfl rfl rfl ?_
              refine Dr.skip rfl rfl rfl rfl ?_
              refine Dr.skip rfl rfl rfl rfl ?_
              refine Dr.skip rfl rfl rfl rfl ?_
              refine Dr.skip rfl rfl rfl rfl ?_
              refine Dr.w rfl rfl rfl rfl (q_pickT rfl rfl) ?_
              exact Dr.meet 7 [5, 26, 25, 24, 23, 3, 2, 14, 13, 12, 11, 0, 29, 30, 31, 32, 33, 34, 35, 36, 37, 48, 55] hk6_33 rfl (by simp only [hg56, Bool.true_or, Bool.false_or, Bool.true_and, Bool.false_and, Bool.not_true, Bool.not_false]) rfl rfl
            · skip
              refine Dr.w rfl rfl rfl rfl (q_move rfl) ?_
              refine Dr.w rfl rfl rfl rfl (q_nil rfl) ?_
              refine Dr.w rfl rfl rfl rfl (q_fieldAddr fo_101_5 rfl rfl) ?_
              refine Dr.r rfl rfl rfl rfl (Sub.rfl' _) (q_load1 ac_63 rfl (hS.ro 2 rfl _ _ hstb) rfl) ?_
              refine Dr.w rfl rfl rfl rfl (QOp.eq (v' := .bool b.next.isNone) (q_peqn Try.underlying63 rfl rfl) (by show _ = Value.bool _; cases hz : b.next with | none => simp [Cs.evp] | some r => (obtain ⟨lb, lo, cs, TT, fz, hp, _⟩ := hT.row (hwb.next r.1 r.2 hz); simp [Cs.evp, hp]))) ?_
              refine Dr.w rfl rfl rfl rfl (q_pickF rfl rfl) ?_
              exact Dr.meet 7 [5, 26, 25, 24, 23, 3, 2, 14, 13, 12, 11, 0, 29, 30, 31, 32, 33, 34, 35, 36, 37, 48, 55] hk6_33 rfl (by simp only [hg56, Bool.true_or, Bool.false_or, Bool.true_and, Bool.false_and, Bool.not_true, Bool.not_false]) rfl rfl
          · skip
            refine Dr.w rfl rfl rfl rfl (q_move rfl) ?_
            refine Dr.joinv 69 (.bool (a.conf != b.conf || a.proc == b.proc || a.next.isNone || b.next.isNone || a.trans.isNone)) 6 [5, 26, 25, 24, 23, 3, 2, 14, 13, 12, 11, 0, 29, 30, 31, 32, 33, 34, 35, 36, 37, 48, 55, 62] (fun hk6_40 => ?_) ?_
            · skip
              refine Dr.split (d := 63) rfl (fun hg63 => ?_) (fun hg63 => ?_)
              · skip
                refine Dr.skip rfl rfl rfl rfl ?_
                refine Dr.skip rfl rfl rfl rfl ?_
                refine Dr.skip rfl rfl rfl rfl ?_
                refine Dr.skip rfl rfl rfl rfl ?_
                refine Dr.skip rfl rfl rfl rfl ?_
                refine Dr.w rfl rfl rfl rfl (q_pickT rfl rfl) ?_
                exact Dr.meet 7 [5, 26, 25, 24, 23, 3, 2, 14, 13, 12, 11, 0, 29, 30, 31, 32, 33, 34, 35, 36, 37, 48, 55, 62] hk6_40 rfl (by simp only [hg63, Bool.true_or, Bool.false_or, Bool.true_and, Bool.false_and, Bool.not_true, Bool.not_false]) rfl rfl
              · skip
                refine Dr.w rfl rfl rfl rfl (q_move rfl) ?_
                refine Dr.w rfl rfl rfl rfl (q_nil rfl) ?_
                refine Dr.w rfl rfl rfl rfl (q_fieldAddr fo_101_4 rfl rfl) ?_
                refine Dr.r rfl rfl rfl rfl (Sub.rfl' _) (q_load1 ac_63 rfl (hS.ro 2 rfl _ _ hsta) rfl) ?_
                refine Dr.w rfl rfl rfl rfl (QOp.eq (v' := .bool a.trans.isNone) (q_peqn Try.underlying63 rfl rfl) (by show _ = Value.bool _; cases hz : a.trans with | none => simp [Cs.evp] | some r => (obtain ⟨lb, lo, cs, TT, fz, hp, _⟩ := hT.row (hwa.trans r.1 r.2 hz); simp [Cs.evp, hp]))) ?_
                refine Dr.w rfl rfl rfl rfl (q_pickF rfl rfl) ?_
                exact Dr.meet 7 [5, 26, 25, 24, 23, 3, 2, 14, 13, 12, 11, 0, 29, 30, 31, 32, 33, 34, 35, 36, 37, 48, 55, 62] hk6_40 rfl (by simp only [hg63, Bool.true_or, Bool.false_or, Bool.true_and, Bool.false_and, Bool.not_true, Bool.not_false]) rfl rfl
            · skip
              refine Dr.w rfl rfl rfl rfl (q_move rfl) ?_
              refine Dr.joinv 76 (.bool (a.conf != b.conf || a.proc == b.proc || a.next.isNone || b.next.isNone || a.trans.isNone || b.trans.isNone)) 6 [5, 26, 25, 24, 23, 3, 2, 14, 13, 12, 11, 0, 29, 30, 31, 32, 33, 34, 35, 36, 37, 48, 55, 62, 69] (fun hk6_47 => ?_) ?_
              · skip
                refine Dr.split (d := 70) rfl (fun hg70 => ?_) (fun hg70 => ?_)
                · skip
                  refine Dr.skip rfl rfl rfl rfl ?_
                  refine Dr.skip rfl rfl rfl rfl ?_
                  refine Dr.skip rfl rfl rfl rfl ?_
                  refine Dr.skip rfl rfl rfl rfl ?_
                  refine Dr.skip rfl rfl rfl rfl ?_
                  refine Dr.w rfl rfl rfl rfl (q_pickT rfl rfl) ?_
                  exact Dr.meet 7 [5, 26, 25, 24, 23, 3, 2, 14, 13, 12, 11, 0, 29, 30, 31, 32, 33, 34, 35, 36, 37, 48, 55, 62, 69] hk6_47 rfl (by simp only [hg70, Bool.true_or, Bool.false_or, Bool.true_and, Bool.false_and, Bool.not_true, Bool.not_false]) rfl rfl
                · skip
                  refine Dr.w rfl rfl rfl rfl (q_move rfl) ?_
                  refine Dr.w rfl rfl rfl rfl (q_nil rfl) ?_
                  refine Dr.w rfl rfl rfl rfl (q_fieldAddr fo_101_4 rfl rfl) ?_
                  refine Dr.r rfl rfl rfl rfl (Sub.rfl' _) (q_load1 ac_63 rfl (hS.ro 2 rfl _ _ hstb) rfl) ?_
                  refine Dr.w rfl rfl rfl rfl (QOp.eq (v' := .bool b.trans.isNone) (q_peqn Try.underlying63 rfl rfl) (by show _ = Value.bool _; cases hz : b.trans with | none => simp [Cs.evp] | some r => (obtain ⟨lb, lo, cs, TT, fz, hp, _⟩ := hT.row (hwb.trans r.1 r.2 hz); simp [Cs.evp, hp]))) ?_
                  refine Dr.w rfl rfl rfl rfl (q_pickF rfl rfl) ?_
                  exact Dr.meet 7 [5, 26, 25, 24, 23, 3, 2, 14, 13, 12, 11, 0, 29, 30, 31, 32, 33, 34, 35, 36, 37, 48, 55, 62, 69] hk6_47 rfl (by simp only [hg70, Bool.true_or, Bool.false_or, Bool.true_and, Bool.false_and, Bool.not_true, Bool.not_false]) rfl rfl
              · skip
                refine Dr.w rfl rfl rfl rfl (q_move rfl) ?_
                refine Dr.joinv 93 (.bool (a.conf != b.conf || a.proc == b.proc || a.next.isNone || b.next.isNone || a.trans.isNone || b.trans.isNone || transNew a.trans != transNew b.trans)) 16 [5, 26, 25, 24, 23, 3, 2, 14, 13, 12, 11, 0, 29, 30, 31, 32, 33, 34, 35, 36, 37, 48, 55, 62, 69, 76] (fun hk6_64 => ?_) ?_
                · skip
                  refine Dr.split (d := 77) rfl (fun hg77 => ?_) (fun hg77 => ?_)
                  · skip
                    refine Dr.skip rfl rfl rfl rfl ?_
                    refine Dr.skip rfl rfl rfl rfl ?_
                    refine Dr.skip rfl rfl rfl rfl ?_
                    refine Dr.skip rfl rfl rfl rfl ?_
                    refine Dr.skip rfl rfl rfl rfl ?_
                    refine Dr.skip rfl rfl rfl rfl ?_
                    refine Dr.skip rfl rfl rfl rfl ?_
                    refine Dr.skip rfl rfl rfl rfl ?_
                    refine Dr.skip rfl rfl rfl rfl ?_
                    refine Dr.skip rfl rfl rfl rfl ?_
                    refine Dr.skip rfl rfl rfl rfl ?_
                    refine Dr.skip rfl rfl rfl rfl ?_
                    refine Dr.skip rfl rfl rfl rfl ?_
                    refine Dr.skip rfl rfl rfl rfl ?_
                    refine Dr.skip rfl rfl rfl rfl ?_
                    refine Dr.w rfl rfl rfl rfl (q_pickT rfl rfl) ?_
                    exact Dr.meet 17 [5, 26, 25, 24, 23, 3, 2, 14, 13, 12, 11, 0, 29, 30, 31, 32, 33, 34, 35, 36, 37, 48, 55, 62, 69, 76] hk6_64 rfl (by first | (simp only [hg77, Bool.true_or]; done) | (simp only [hg77, Bool.false_or]; rw [hxA, hxB]; rfl)) rfl rfl
                  · obtain ⟨⟨jA, xA⟩, hxA⟩ : ∃ r, a.trans = some r := Option.isSome_iff_exists.1 (by revert hg77; cases a.trans <;> simp)
                    obtain ⟨lbA, loA, csA, TTA, fzA, hpA, hbA, hltA, hrA⟩ := hT.row (hwa.trans _ _ hxA)
                    obtain ⟨⟨jB, xB⟩, hxB⟩ : ∃ r, b.trans = some r := Option.isSome_iff_exists.1 (by revert hg77; cases b.trans <;> simp)
                    obtain ⟨lbB, loB, csB, TTB, fzB, hpB, hbB, hltB, hrB⟩ := hT.row (hwb.trans _ _ hxB)
                    refine Dr.w rfl rfl rfl rfl (q_move rfl) ?_
                    refine Dr.w rfl rfl rfl rfl (q_nil rfl) ?_
                    refine Dr.w rfl rfl rfl rfl (q_fieldAddr fo_101_4 rfl rfl) ?_
                    refine Dr.r rfl rfl rfl rfl (Sub.rfl' _) (QOp.eq (v' := .pointer (some ⟨lbA, loA + jA * 19, none⟩)) (q_load1 ac_63 rfl (hS.ro 2 rfl _ _ hsta) rfl) (by show evp p a.trans = _; rw [hxA, hpA]; rfl)) ?_
                    refine Dr.w rfl rfl rfl rfl (q_nil rfl) ?_
                    refine Dr.w rfl rfl rfl rfl (q_fieldAddr fo_39_3 rfl rfl) ?_
                    refine Dr.r rfl rfl rfl rfl (Sub.rfl' _) (q_loadA ac_30 rfl (hS.ro 2 rfl _ _ hbA) (row_partN hrA 4 2 (by decide) rfl rfl)) ?_
                    refine Dr.w rfl rfl rfl rfl (q_move rfl) ?_
                    refine Dr.w rfl rfl rfl rfl (q_nil rfl) ?_
                    refine Dr.w rfl rfl rfl rfl (q_fieldAddr fo_101_4 rfl rfl) ?_
                    refine Dr.r rfl rfl rfl rfl (Sub.rfl' _) (QOp.eq (v' := .pointer (some ⟨lbB, loB + jB * 19, none⟩)) (q_load1 ac_63 rfl (hS.ro 2 rfl _ _ hstb) rfl) (by show evp p b.trans = _; rw [hxB, hpB]; rfl)) ?_
                    refine Dr.w rfl rfl rfl rfl (q_nil rfl) ?_
                    refine Dr.w rfl rfl rfl rfl (q_fieldAddr fo_39_3 rfl rfl) ?_
                    refine Dr.r rfl rfl rfl rfl (Sub.rfl' _) (q_loadA ac_30 rfl (hS.ro 2 rfl _ _ hbB) (row_partN hrB 4 2 (by decide) rfl rfl)) ?_
                    refine Dr.w rfl rfl rfl rfl (q_ane rfl rfl eg_30 (eq_30 xA.new xB.new)) ?_
                    refine Dr.w rfl rfl rfl rfl (q_pickF rfl rfl) ?_
                    exact Dr.meet 17 [5, 26, 25, 24, 23, 3, 2, 14, 13, 12, 11, 0, 29, 30, 31, 32, 33, 34, 35, 36, 37, 48, 55, 62, 69, 76] hk6_64 rfl (by first | (simp only [hg77, Bool.true_or]; done) | (simp only [hg77, Bool.false_or]; rw [hxA, hxB]; rfl)) rfl rfl
                · skip
                  refine Dr.done ?_
                  refine St.keep [5, 26, 25, 24, 23, 3, 2, 14, 13, 12, 11, 0, 93] ?_
                  show St _ _ _ [(93, _), (5, _), (26, _), (25, _), (24, _), (23, _), (3, _), (2, _), (14, _), (13, _), (12, _), (11, _), (0, _)] _ _ _
                  refine St.cond rfl (fun hc2 => ?_) (fun hc2 => ?_)
                  · skip
                    refine St.exit rfl ?_
                    refine St.region rfl ?_
                    refine Reg.q rfl rfl rfl (q_add rfl rfl (inc64 (by omega))) ?_
                    refine Reg.q rfl rfl rfl (q_move rfl) ?_
                    refine Reg.done ?_
                    refine St.keep [93, 5, 26, 25, 24, 23, 3, 2, 14, 13, 12, 11, 0] ?_
                    show St _ _ _ [(25, _), (93, _), (5, _), (26, _), (25, _), (24, _), (23, _), (3, _), (2, _), (14, _), (13, _), (12, _), (11, _), (0, _)] _ _ _
                    refine St.conv (SubL.list (by rfl)) (Sub.rfl' _) (back1 ((k + 1, al)) _ ?_ ?_)
                    · exact ⟨hS, by simp only []; omega, hbad.congr fun q => by simp only []; rw [any_take hb, pairB, pairs, hc2]; simp⟩
                    · simp only []; omega
                  · obtain ⟨⟨jA, xA⟩, hxA⟩ : ∃ r, a.trans = some r := Option.isSome_iff_exists.1 (by revert hc2; cases a.trans <;> simp)
                    obtain ⟨lbA, loA, csA, TTA, fzA, hpA, hbA, hltA, hrA⟩ := hT.row (hwa.trans _ _ hxA)
                    obtain ⟨⟨jB, xB⟩, hxB⟩ : ∃ r, b.trans = some r := Option.isSome_iff_exists.1 (by revert hc2; cases b.trans <;> simp)
                    obtain ⟨lbB, loB, csB, TTB, fzB, hpB, hbB, hltB, hrB⟩ := hT.row (hwb.trans _ _ hxB)
                    refine St.skip ?_
                    refine St.draw0 [18, 20, 21, 26, 28, 29, 32] [(0, .w), (1, .w), (2, .w), (3, .w), (4, .r), (5, .w), (6, .w), (7, .r), (8, .w), (9, .w), (10, .w), (11, .r), (12, .w), (13, .w), (14, .r), (15, .w), (16, .w), (17, .w), (19, .w), (18, .x), (20, .x), (21, .x), (22, .w), (23, .w), (24, .w), (25, .w), (27, .w), (26, .x), (28, .x), (29, .x), (30, .w), (31, .w), (32, .x)] mixed (by kernel_rfl) rfl ?_
                    refine Dr.w rfl rfl rfl rfl (q_move rfl) ?_
                    refine Dr.w rfl rfl rfl rfl (q_move rfl) ?_
                    refine Dr.w rfl rfl rfl rfl (q_nil rfl) ?_
                    refine Dr.w rfl rfl rfl rfl (q_fieldAddr fo_101_4 rfl rfl) ?_
                    refine Dr.r rfl rfl rfl rfl (Sub.rfl' _) (QOp.eq (v' := .pointer (some ⟨lbA, loA + jA * 19, none⟩)) (q_load1 ac_63 rfl (hS.ro 2 rfl _ _ hsta) rfl) (by show evp p a.trans = _; rw [hxA, hpA]; rfl)) ?_
                    refine Dr.w rfl rfl rfl rfl (q_nil rfl) ?_
                    refine Dr.w rfl rfl rfl rfl (q_fieldAddr fo_39_4 rfl rfl) ?_
                    refine Dr.r rfl rfl rfl rfl (Sub.rfl' _) (q_load1 ac_28 rfl (hS.ro 2 rfl _ _ hbA) (row_cell hrA 6 rfl)) ?_
                    refine Dr.w rfl rfl rfl rfl (q_move rfl) ?_
                    refine Dr.w rfl rfl rfl rfl (q_nil rfl) ?_
                    refine Dr.w rfl rfl rfl rfl (q_fieldAddr fo_101_4 rfl rfl) ?_
                    refine Dr.r rfl rfl rfl rfl (Sub.rfl' _) (QOp.eq (v' := .pointer (some ⟨lbB, loB + jB * 19, none⟩)) (q_load1 ac_63 rfl (hS.ro 2 rfl _ _ hstb) rfl) (by show evp p b.trans = _; rw [hxB, hpB]; rfl)) ?_
                    refine Dr.w rfl rfl rfl rfl (q_nil rfl) ?_
                    refine Dr.w rfl rfl rfl rfl (q_fieldAddr fo_39_4 rfl rfl) ?_
                    refine Dr.r rfl rfl rfl rfl (Sub.rfl' _) (q_load1 ac_28 rfl (hS.ro 2 rfl _ _ hbB) (row_cell hrB 6 rfl)) ?_
                    refine Dr.w rfl rfl rfl rfl (q_ine rfl rfl) ?_
                    refine Dr.w rfl rfl rfl rfl (q_move rfl) ?_
                    refine Dr.joinv 117 (.bool (transMem a.trans != transMem b.trans || !sames (partOf a false) (partOf b false))) 7 [93, 5, 26, 25, 24, 23, 3, 2, 14, 13, 12, 11, 0, 94, 95, 96, 97, 98, 99, 100, 101, 102, 103, 104, 105, 106, 107, 108, 109] (fun hk7_23 => ?_) ?_
                    · skip
                      refine Dr.split (d := 110) rfl (fun hg110 => ?_) (fun hg110 => ?_)
                      · skip
                        refine Dr.skip rfl rfl rfl rfl ?_
                        refine Dr.skip rfl rfl rfl rfl ?_
                        refine Dr.skip rfl rfl rfl rfl ?_
                        refine Dr.skip rfl rfl rfl rfl ?_
                        refine Dr.skip rfl rfl rfl rfl ?_
                        refine Dr.skip rfl rfl rfl rfl ?_
                        refine Dr.w rfl rfl rfl rfl (q_pickT rfl rfl) ?_
                        exact Dr.meet 8 [93, 5, 26, 25, 24, 23, 3, 2, 14, 13, 12, 11, 0, 94, 95, 96, 97, 98, 99, 100, 101, 102, 103, 104, 105, 106, 107, 108, 109] hk7_23 rfl (by rw [hxA, hxB]; simp only [transMem, hg110, Bool.true_or, Bool.false_or]) rfl rfl
                      · skip
                        refine Dr.w rfl rfl rfl rfl (q_move rfl) ?_
                        refine Dr.w rfl rfl rfl rfl (q_move rfl) ?_
                        refine Dr.x rfl rfl rfl rfl (e_callF rfl rfl rfl ca_37 ((jpart_spec _ es _ _ _ _ _ _ _ a (hS.ro 2 rfl _ _ hsta) (Rd.up hrda (hS.ro 2 rfl)) hla false).mono fun v112 τ112 h112 => ?_))
                        obtain ⟨q1, c1, rfl, hsub1, hrd1⟩ := h112
                        replace hS := hS.sub hsub1
                        refine ⟨.inl rfl, ?_⟩
                        refine Dr.x rfl rfl rfl rfl (e_callF rfl rfl rfl ca_37 ((jpart_spec _ es _ _ _ _ _ _ _ b (hS.ro 2 rfl _ _ hstb) (Rd.up hrdb (hS.ro 2 rfl)) hlb false).mono fun v114 τ114 h114 => ?_))
                        obtain ⟨q2, c2, rfl, hsub2, hrd2⟩ := h114
                        replace hS := hS.sub hsub2
                        replace hrd1 := Rd.up hrd1 hsub2
                        refine ⟨.inl rfl, ?_⟩
                        refine Dr.x rfl rfl rfl rfl (e_callF rfl rfl rfl ca_36 ((eqf_spec _ _ _ _ _ _ _ (partOf a false) (partOf b false) hrd1 hrd2 (fun m hm => (part_ok hA hT hsma hm).up (hS.ro 2 rfl)) (fun m hm => (part_ok hA hT hsmb hm).up (hS.ro 2 rfl)) (by have := part_len a false; omega) _ ca_34 (fun τ x y hx hy => jsame_spec τ x y hx hy)).mono fun v115 τ115 h115 => ?_))
                        obtain ⟨rfl, rfl⟩ := h115
                        refine ⟨.inl rfl, ?_⟩
                        refine Dr.w rfl rfl rfl rfl (q_not rfl) ?_
                        refine Dr.w rfl rfl rfl rfl (q_pickF rfl rfl) ?_
                        refine Dr.down (hsub1.trans hsub2) ?_
                        exact Dr.meet 8 [93, 5, 26, 25, 24, 23, 3, 2, 14, 13, 12, 11, 0, 94, 95, 96, 97, 98, 99, 100, 101, 102, 103, 104, 105, 106, 107, 108, 109] hk7_23 rfl (by rw [hxA, hxB]; simp only [transMem, hg110, Bool.true_or, Bool.false_or]) rfl rfl
                    · skip
                      refine Dr.w rfl rfl rfl rfl (q_move rfl) ?_
                      refine Dr.joinv 125 (.bool (transMem a.trans != transMem b.trans || !sames (partOf a false) (partOf b false) || !sames (partOf a true) (partOf b true))) 7 [93, 5, 26, 25, 24, 23, 3, 2, 14, 13, 12, 11, 0, 94, 95, 96, 97, 98, 99, 100, 101, 102, 103, 104, 105, 106, 107, 108, 109, 117] (fun hk7_31 => ?_) ?_
                      · skip
                        refine Dr.split (d := 118) rfl (fun hg118 => ?_) (fun hg118 => ?_)
                        · skip
                          refine Dr.skip rfl rfl rfl rfl ?_
                          refine Dr.skip rfl rfl rfl rfl ?_
                          refine Dr.skip rfl rfl rfl rfl ?_
                          refine Dr.skip rfl rfl rfl rfl ?_
                          refine Dr.skip rfl rfl rfl rfl ?_
                          refine Dr.skip rfl rfl rfl rfl ?_
                          refine Dr.w rfl rfl rfl rfl (q_pickT rfl rfl) ?_
                          exact Dr.meet 8 [93, 5, 26, 25, 24, 23, 3, 2, 14, 13, 12, 11, 0, 94, 95, 96, 97, 98, 99, 100, 101, 102, 103, 104, 105, 106, 107, 108, 109, 117] hk7_31 rfl (by simp only [hg118, Bool.true_or, Bool.false_or, Bool.true_and, Bool.false_and, Bool.not_true, Bool.not_false]) rfl rfl
                        · skip
                          refine Dr.w rfl rfl rfl rfl (q_move rfl) ?_
                          refine Dr.w rfl rfl rfl rfl (q_move rfl) ?_
                          refine Dr.x rfl rfl rfl rfl (e_callF rfl rfl rfl ca_37 ((jpart_spec _ es _ _ _ _ _ _ _ a (hS.ro 2 rfl _ _ hsta) (Rd.up hrda (hS.ro 2 rfl)) hla true).mono fun v120 τ120 h120 => ?_))
                          obtain ⟨q1, c1, rfl, hsub1, hrd1⟩ := h120
                          replace hS := hS.sub hsub1
                          refine ⟨.inl rfl, ?_⟩
                          refine Dr.x rfl rfl rfl rfl (e_callF rfl rfl rfl ca_37 ((jpart_spec _ es _ _ _ _ _ _ _ b (hS.ro 2 rfl _ _ hstb) (Rd.up hrdb (hS.ro 2 rfl)) hlb true).mono fun v122 τ122 h122 => ?_))
                          obtain ⟨q2, c2, rfl, hsub2, hrd2⟩ := h122
                          replace hS := hS.sub hsub2
                          replace hrd1 := Rd.up hrd1 hsub2
                          refine ⟨.inl rfl, ?_⟩
                          refine Dr.x rfl rfl rfl rfl (e_callF rfl rfl rfl ca_36 ((eqf_spec _ _ _ _ _ _ _ (partOf a true) (partOf b true) hrd1 hrd2 (fun m hm => (part_ok hA hT hsma hm).up (hS.ro 2 rfl)) (fun m hm => (part_ok hA hT hsmb hm).up (hS.ro 2 rfl)) (by have := part_len a true; omega) _ ca_34 (fun τ x y hx hy => jsame_spec τ x y hx hy)).mono fun v123 τ123 h123 => ?_))
                          obtain ⟨rfl, rfl⟩ := h123
                          refine ⟨.inl rfl, ?_⟩
                          refine Dr.w rfl rfl rfl rfl (q_not rfl) ?_
                          refine Dr.w rfl rfl rfl rfl (q_pickF rfl rfl) ?_
                          refine Dr.down (hsub1.trans hsub2) ?_
                          exact Dr.meet 8 [93, 5, 26, 25, 24, 23, 3, 2, 14, 13, 12, 11, 0, 94, 95, 96, 97, 98, 99, 100, 101, 102, 103, 104, 105, 106, 107, 108, 109, 117] hk7_31 rfl (by simp only [hg118, Bool.true_or, Bool.false_or, Bool.true_and, Bool.false_and, Bool.not_true, Bool.not_false]) rfl rfl
                      · skip
                        refine Dr.x rfl rfl rfl rfl (e_callF rfl rfl rfl ca_35 ((jbreaks_spec _ _ _ _ _ _ _ _ hS _ _).mono fun v126 τ126 h126 => ?_))
                        replace hS := h126
                        replace hbad := hbad.brk 5 (transMem a.trans != transMem b.trans || !sames (partOf a false) (partOf b false) || !sames (partOf a true) (partOf b true))
                        refine ⟨.inl rfl, ?_⟩
                        refine Dr.done ?_
                        refine St.keep [93, 5, 26, 25, 24, 23, 3, 2, 14, 13, 12, 11, 0] ?_
                        show St _ _ _ [(93, _), (5, _), (26, _), (25, _), (24, _), (23, _), (3, _), (2, _), (14, _), (13, _), (12, _), (11, _), (0, _)] _ _ _
                        refine St.inBlock ?_
                        refine St.region rfl ?_
                        refine Reg.q rfl rfl rfl (q_add rfl rfl (inc64 (by omega))) ?_
                        refine Reg.q rfl rfl rfl (q_move rfl) ?_
                        refine Reg.done ?_
                        refine St.keep [93, 5, 26, 25, 24, 23, 3, 2, 14, 13, 12, 11, 0] ?_
                        show St _ _ _ [(25, _), (93, _), (5, _), (26, _), (25, _), (24, _), (23, _), (3, _), (2, _), (14, _), (13, _), (12, _), (11, _), (0, _)] _ _ _
                        refine St.conv (SubL.list (by rfl)) (Sub.rfl' _) (back1 ((k + 1, if transMem a.trans != transMem b.trans || !sames (partOf a false) (partOf b false) || !sames (partOf a true) (partOf b true) then put al 5 (.bool true) else al)) _ ?_ ?_)
                        · exact ⟨hS, by simp only []; omega, hbad.congr fun q => by simp only []; rw [any_take hb, pairB, pairs, hc2]; cases (q == 5) <;> simp [Bool.or_assoc, Bool.or_comm, Bool.or_left_comm]⟩
                        · simp only []; omega
    · simp at hc1
      have hki : i = k := by omega
      subst hki
      refine St.exit rfl ?_
      refine St.seq ?_
      refine St.region rfl ?_
      refine Reg.q rfl rfl rfl (q_move rfl) ?_
      refine Reg.q rfl rfl rfl (q_nil rfl) ?_
      refine Reg.q rfl rfl rfl (q_fieldAddr fo_70_1 rfl rfl) ?_
      refine Reg.q rfl rfl rfl (q_load1 ac_68 rfl (hS.pt 0 rfl) rfl) ?_
      refine Reg.q rfl rfl rfl (q_lenS rfl se_68 rfl) ?_
      refine Reg.q rfl rfl rfl (q_move rfl) ?_
      refine Reg.done ?_
      refine St.keep [26, 25, 24, 23, 3, 2, 14, 13, 12, 11, 0, 131, 132, 133] ?_
      show St _ _ _ [(133, _), (132, _), (131, _), (26, _), (25, _), (24, _), (23, _), (3, _), (2, _), (14, _), (13, _), (12, _), (11, _), (0, _)] _ _ _
      refine St.block ?_
      refine St.loopw (Y := Nat × List (Int × Value)) (fun y => [(133, .int .i64 (y.1 : Nat))]) [132, 131, 26, 25, 24, 23, 3, 2, 14, 13, 12, 11, 0] (fun y τ => Stars (pt tb (.cells (traceC p es.length c sp ss.length sc mb nm) 70 (0, 0)) :: mapA encI mb y.2 :: ro ρ :: rs) τ ∧ y.1 ≤ ss.length ∧ BadIs y.2 (fun q => (((f q || (q == 5 && tog5 ss i)) || (q == 6 && tog6 ss i)) || (q == 5 && (ss.take i).any fun b => pairB a b)) || (q == 6 && (ss.take y.1).any fun b => safeOn a b))) (fun y => ss.length - y.1) ((0, al)) rfl (⟨hS, Nat.zero_le _, hbad.congr (fun q => by simp)⟩) ?_
      intro ⟨k, al⟩ τ ⟨hS, hk, hbad⟩ back2
      simp only [] at hS hk hbad
      show St _ _ _ [(133, _), (132, _), (131, _), (26, _), (25, _), (24, _), (23, _), (3, _), (2, _), (14, _), (13, _), (12, _), (11, _), (0, _)] _ _ _
      refine St.seq ?_
      refine St.region rfl ?_
      refine Reg.q rfl rfl rfl (q_lt rfl rfl) ?_
      refine Reg.done ?_
      refine St.keep [133, 132, 131, 26, 25, 24, 23, 3, 2, 14, 13, 12, 11, 0, 134] ?_
      show St _ _ _ [(134, _), (133, _), (132, _), (131, _), (26, _), (25, _), (24, _), (23, _), (3, _), (2, _), (14, _), (13, _), (12, _), (11, _), (0, _)] _ _ _
      refine St.seq ?_
      refine St.cond rfl (fun hc3 => ?_) (fun hc3 => ?_)
      · simp at hc3
        obtain ⟨bb, b, b2, o2, cs2, T2, f2, hb, hbb, hsp2, hb2, hr2⟩ := hA.ptr hc3
        obtain ⟨gpb, gcb, upb, ucb, hstb, hrdb⟩ := hA.at_ k bb b hbb hb
        have hsmb := List.mem_of_getElem? hb
        have hwb := hA.wf b hsmb
        have hlb := hA.few.2 b hsmb
        refine St.skip ?_
        refine St.seq ?_
        refine St.block ?_
        refine St.seq ?_
        refine St.region rfl ?_
        refine Reg.q rfl rfl rfl (q_indexAt se_68 rfl hsp2 rfl (by omega) rfl) ?_
        refine Reg.q rfl rfl rfl (q_load1 ac_90 rfl (hS.ro 2 rfl _ _ hb2) (row_cell hr2 0 rfl)) ?_
        refine Reg.q rfl rfl rfl (q_assign rfl) ?_
        refine Reg.done ?_
        refine St.keep [134, 133, 132, 131, 26, 25, 24, 23, 3, 2, 14, 13, 12, 11, 0, 7] ?_
        show St _ _ _ [(7, _), (134, _), (133, _), (132, _), (131, _), (26, _), (25, _), (24, _), (23, _), (3, _), (2, _), (14, _), (13, _), (12, _), (11, _), (0, _)] _ _ _
        refine St.seq ?_
        refine St.draw0 [] [(0, .w), (1, .w), (2, .w), (3, .r), (4, .w), (5, .w), (6, .w), (7, .r), (8, .w), (9, .w), (10, .w), (11, .w), (12, .w), (13, .r), (14, .w), (15, .w)] mixed (by kernel_rfl) rfl ?_
        refine Dr.w rfl rfl rfl rfl (q_move rfl) ?_
        refine Dr.w rfl rfl rfl rfl (q_nil rfl) ?_
        refine Dr.w rfl rfl rfl rfl (q_fieldAddr fo_101_1 rfl rfl) ?_
        refine Dr.r rfl rfl rfl rfl (Sub.rfl' _) (q_loadA ac_30 rfl (hS.ro 2 rfl _ _ hsta) (rowN_row rfl)) ?_
        refine Dr.w rfl rfl rfl rfl (q_move rfl) ?_
        refine Dr.w rfl rfl rfl rfl (q_nil rfl) ?_
        refine Dr.w rfl rfl rfl rfl (q_fieldAddr fo_101_1 rfl rfl) ?_
        refine Dr.r rfl rfl rfl rfl (Sub.rfl' _) (q_loadA ac_30 rfl (hS.ro 2 rfl _ _ hstb) (rowN_row rfl)) ?_
        refine Dr.w rfl rfl rfl rfl (q_aeq rfl rfl eg_30 (eq_30 a.conf b.conf)) ?_
        refine Dr.w rfl rfl rfl rfl (q_move rfl) ?_
        refine Dr.joinv 152 (.bool (a.conf == b.conf && b.next.isSome)) 6 [7, 134, 133, 132, 131, 26, 25, 24, 23, 3, 2, 14, 13, 12, 11, 0, 137, 138, 139, 140, 141, 142, 143, 144, 145] (fun hk12_15 => ?_) ?_
        · skip
          refine Dr.split (d := 146) rfl (fun hg146 => ?_) (fun hg146 => ?_)
          · skip
            refine Dr.w rfl rfl rfl rfl (q_move rfl) ?_
            refine Dr.w rfl rfl rfl rfl (q_nil rfl) ?_
            refine Dr.w rfl rfl rfl rfl (q_fieldAddr fo_101_5 rfl rfl) ?_
            refine Dr.r rfl rfl rfl rfl (Sub.rfl' _) (q_load1 ac_63 rfl (hS.ro 2 rfl _ _ hstb) rfl) ?_
            refine Dr.w rfl rfl rfl rfl (QOp.eq (v' := .bool b.next.isSome) (q_pnen Try.underlying63 rfl rfl) (by show _ = Value.bool _; cases hz : b.next with | none => simp [Cs.evp] | some r => (obtain ⟨lb, lo, cs, TT, fz, hp, _⟩ := hT.row (hwb.next r.1 r.2 hz); simp [Cs.evp, hp]))) ?_
            refine Dr.w rfl rfl rfl rfl (q_pickT rfl rfl) ?_
            exact Dr.meet 7 [7, 134, 133, 132, 131, 26, 25, 24, 23, 3, 2, 14, 13, 12, 11, 0, 137, 138, 139, 140, 141, 142, 143, 144, 145] hk12_15 rfl (by simp only [hg146, Bool.true_or, Bool.false_or, Bool.true_and, Bool.false_and, Bool.not_true, Bool.not_false]) rfl rfl
          · skip
            refine Dr.skip rfl rfl rfl rfl ?_
            refine Dr.skip rfl rfl rfl rfl ?_
            refine Dr.skip rfl rfl rfl rfl ?_
            refine Dr.skip rfl rfl rfl rfl ?_
            refine Dr.skip rfl rfl rfl rfl ?_
            refine Dr.w rfl rfl rfl rfl (q_pickF rfl rfl) ?_
            exact Dr.meet 7 [7, 134, 133, 132, 131, 26, 25, 24, 23, 3, 2, 14, 13, 12, 11, 0, 137, 138, 139, 140, 141, 142, 143, 144, 145] hk12_15 rfl (by simp only [hg146, Bool.true_or, Bool.false_or, Bool.true_and, Bool.false_and, Bool.not_true, Bool.not_false]) rfl rfl
        · skip
          refine Dr.done ?_
          refine St.keep [7, 134, 133, 132, 131, 26, 25, 24, 23, 3, 2, 14, 13, 12, 11, 0, 152] ?_
          show St _ _ _ [(152, _), (7, _), (134, _), (133, _), (132, _), (131, _), (26, _), (25, _), (24, _), (23, _), (3, _), (2, _), (14, _), (13, _), (12, _), (11, _), (0, _)] _ _ _
          refine St.cond rfl (fun hc4 => ?_) (fun hc4 => ?_)
          · skip
            refine St.region rfl ?_
            refine Reg.q rfl rfl rfl (q_move rfl) ?_
            refine Reg.q rfl rfl rfl (q_move rfl) ?_
            refine Reg.q rfl rfl rfl (q_move rfl) ?_
            refine Reg.x rfl rfl rfl (e_callF rfl rfl rfl ca_38 ((jsafe_spec _ ρ _ es p sp c sc hT hes bs ss hA tb mb nm _ _ hbad hS i k a b ba bb hba ha hbb hb).mono fun v156 τ156 h156 => ?_))
            obtain ⟨al1, hS, hbad1⟩ := h156
            refine Reg.done ?_
            refine St.keep [152, 7, 134, 133, 132, 131, 26, 25, 24, 23, 3, 2, 14, 13, 12, 11, 0] ?_
            show St _ _ _ [(152, _), (7, _), (134, _), (133, _), (132, _), (131, _), (26, _), (25, _), (24, _), (23, _), (3, _), (2, _), (14, _), (13, _), (12, _), (11, _), (0, _)] _ _ _
            refine St.inBlock ?_
            refine St.region rfl ?_
            refine Reg.q rfl rfl rfl (q_add rfl rfl (inc64 (by omega))) ?_
            refine Reg.q rfl rfl rfl (q_move rfl) ?_
            refine Reg.done ?_
            refine St.keep [152, 7, 134, 133, 132, 131, 26, 25, 24, 23, 3, 2, 14, 13, 12, 11, 0] ?_
            show St _ _ _ [(133, _), (152, _), (7, _), (134, _), (133, _), (132, _), (131, _), (26, _), (25, _), (24, _), (23, _), (3, _), (2, _), (14, _), (13, _), (12, _), (11, _), (0, _)] _ _ _
            refine St.conv (SubL.list (by rfl)) (Sub.rfl' _) (back2 ((k + 1, al1)) _ ?_ ?_)
            · exact ⟨hS, by simp only []; omega, hbad1.congr fun q => by simp only []; rw [any_take hb, safeOn, hc4]; cases (q == 6) <;> simp [Bool.or_assoc]⟩
            · simp only []; omega
          · skip
            refine St.skip ?_
            refine St.inBlock ?_
            refine St.region rfl ?_
            refine Reg.q rfl rfl rfl (q_add rfl rfl (inc64 (by omega))) ?_
            refine Reg.q rfl rfl rfl (q_move rfl) ?_
            refine Reg.done ?_
            refine St.keep [152, 7, 134, 133, 132, 131, 26, 25, 24, 23, 3, 2, 14, 13, 12, 11, 0] ?_
            show St _ _ _ [(133, _), (152, _), (7, _), (134, _), (133, _), (132, _), (131, _), (26, _), (25, _), (24, _), (23, _), (3, _), (2, _), (14, _), (13, _), (12, _), (11, _), (0, _)] _ _ _
            refine St.conv (SubL.list (by rfl)) (Sub.rfl' _) (back2 ((k + 1, al)) _ ?_ ?_)
            · exact ⟨hS, by simp only []; omega, hbad.congr fun q => by simp only []; rw [any_take hb, safeOn, hc4]; simp⟩
            · simp only []; omega
      · simp at hc3
        obtain rfl : k = ss.length := by omega
        rw [List.take_length] at hbad
        refine St.exit rfl ?_
        refine St.inBlock ?_
        refine St.region rfl ?_
        refine Reg.q rfl rfl rfl (q_add rfl rfl (inc64 (by omega))) ?_
        refine Reg.q rfl rfl rfl (q_move rfl) ?_
        refine Reg.done ?_
        refine St.keep [134, 133, 132, 131, 26, 25, 24, 23, 3, 2, 14, 13, 12, 11, 0] ?_
        show St _ _ _ [(13, _), (134, _), (133, _), (132, _), (131, _), (26, _), (25, _), (24, _), (23, _), (3, _), (2, _), (14, _), (13, _), (12, _), (11, _), (0, _)] _ _ _
        refine St.conv (SubL.list (by rfl)) (Sub.rfl' _) (back ((i + 1, al)) _ ?_ ?_)
        · exact ⟨hS, by simp only []; omega, hbad.congr fun q => by simp only []; rw [tog5_succ ha, tog6_succ ha]; cases (q == 5) <;> cases (q == 6) <;> simp [Bool.or_assoc, Bool.or_comm, Bool.or_left_comm]⟩
        · simp only []; omega
  · simp at hc0
    obtain rfl : i = ss.length := by omega
    refine St.exit rfl ?_
    refine St.fin Try.func21 .nil (Sub.rfl' _) ?_
    exact ⟨_, hS, hbad⟩
end Go.Proofs.Ytdgdbnkhmdncdaa
