/- The judge: of how many sends a delivery stands behind. -/
import Derived.Test.YtdgdbnkhmdncdaaJ1
import Derived.Test.YtdgdbnkhmdncdaaJb
set_option linter.unusedSectionVars false
set_option linter.unusedSimpArgs false
set_option linter.unusedVariables false
namespace Go.Proofs.Ytdgdbnkhmdncdaa
open Go.Gw Go.Cs
variable [Env]
set_option maxHeartbeats 4000000
namespace FJ6
theorem ac_22 : aggCells Try.prog 22 = some none := by kernel_rfl
theorem ac_3 : aggCells Try.prog 3 = some none := by kernel_rfl
theorem ac_30 : aggCells Try.prog 30 = some (some 2) := by kernel_rfl
theorem ac_31 : aggCells Try.prog 31 = some none := by kernel_rfl
theorem ac_34 : aggCells Try.prog 34 = some (some 6) := by kernel_rfl
theorem ac_39 : aggCells Try.prog 39 = some (some 19) := by kernel_rfl
theorem ac_94 : aggCells Try.prog 94 = some (some 4) := by kernel_rfl
theorem ca_34 : callable Try.prog 34 = true := by kernel_rfl
theorem ca_35 : callable Try.prog 35 = true := by kernel_rfl
theorem fo_34_0 : fieldOff Try.prog 34 0 = some 0 := by kernel_rfl
theorem fo_34_1 : fieldOff Try.prog 34 1 = some 1 := by kernel_rfl
theorem fo_39_0 : fieldOff Try.prog 39 0 = some 0 := by kernel_rfl
theorem fo_39_1 : fieldOff Try.prog 39 1 = some 1 := by kernel_rfl
theorem fo_39_2 : fieldOff Try.prog 39 2 = some 2 := by kernel_rfl
theorem fo_39_5 : fieldOff Try.prog 39 5 = some 7 := by kernel_rfl
theorem fo_70_0 : fieldOff Try.prog 70 0 = some 0 := by kernel_rfl
theorem pl_94 : places Try.prog 94 = some #[(0, 2), (2, 1), (3, 1)] := by kernel_rfl
theorem sb_3 : sizeBytes Try.prog 3 = some (1, 8) := by kernel_rfl
theorem se_22 : sliceElem Try.prog 22 = some 19 := by kernel_rfl
theorem se_95 : sliceElem Try.prog 95 = some 1 := by kernel_rfl
theorem so_95 : sliceOf Try.prog 95 = some (3, 1) := by kernel_rfl
theorem sz_39 : szOf Try.prog 39 = some 19 := by kernel_rfl
theorem sz_94 : szOf Try.prog 94 = some 4 := by kernel_rfl
theorem zo_3 : zeroOf Try.prog 3 = some #[.int .i64 0] := by kernel_rfl
theorem zo_39 : zeroOf Try.prog 39 = some #[.int .i64 0, .int .i64 0, .int .u64 0, .int .i64 0, .int .u64 0, .int .i64 0, .int .u64 0, .int .i64 0, .int .u32 0, .int .u64 0, .int .i64 0, .slice none 0 0, .string ⟨#[]⟩, .int .u64 0, .int .u64 0, .int .i64 0, .int .u64 0, .slice none 0 0, .string ⟨#[]⟩] := by kernel_rfl
theorem zo_94 : zeroOf Try.prog 94 = some #[.int .u64 0, .int .i64 0, .int .i64 0, .int .u32 0] := by kernel_rfl
theorem zr_3_1 : zrow #[.int .i64 0] (1 * 1) = #[.int .i64 0] := by kernel_rfl
theorem zv_95 : zeroV Try.prog 95 = some (.slice none 0 0) := by kernel_rfl
end FJ6
open FJ6

theorem jbehind_spec (σ ρ : Heap) (rs : List Asr) (es : List Ev) (p : Option Addr) (c : Nat) (hT : TraceIs ρ p es) (hes : es.length ≤ 100000) (tb mb : Nat) (v1 v3 : Value) (f : Int → Bool) (al : List (Int × Value)) (hbad : BadIs al f) (hS : Stars (pt tb (.cells #[.slice p es.length c, v1, .map (some mb), v3] 70 (0, 0)) :: mapA encI mb al :: ro ρ :: rs) σ) : Does Try.prog 19 #[.pointer (some ⟨tb, 0, none⟩)] σ (fun v τ => ∃ al', Stars (pt tb (.cells #[.slice p es.length c, v1, .map (some mb), v3] 70 (0, 0)) :: mapA encI mb al' :: ro ρ :: rs) τ ∧ BadIs al' (fun q => f q || (q == 2 && behindB es es.length))) := by
  refine Does.enter (n := 80) (l := [(0, _)]) Try.func19 rfl rfl (by simp) rfl ?_
  refine St.seq ?_
  refine St.region rfl ?_
  refine Reg.x rfl rfl rfl (e_makeMap (fun b9 τ9 hb9 => ?_))
  replace hS := rows_new (T := 3) (m := 1) (enc := encSent) (f := idxC) hS hb9
  refine Reg.q rfl rfl rfl (q_assign rfl) ?_
  refine Reg.done ?_
  refine St.keep [0, 2] ?_
  show St _ _ _ [(2, _), (0, _)] _ _ _
  refine St.seq ?_
  refine St.region rfl ?_
  refine Reg.q rfl rfl rfl (q_move rfl) ?_
  refine Reg.q rfl rfl rfl (q_nil rfl) ?_
  refine Reg.q rfl rfl rfl (q_fieldAddr fo_70_0 rfl rfl) ?_
  refine Reg.q rfl rfl rfl (q_load1 ac_22 rfl (hS.pt 1 rfl) rfl) ?_
  refine Reg.q rfl rfl rfl (q_lenS rfl se_22 rfl) ?_
  refine Reg.q rfl rfl rfl (q_move rfl) ?_
  refine Reg.done ?_
  refine St.keep [2, 0, 13, 14, 15] ?_
  show St _ _ _ [(15, _), (14, _), (13, _), (2, _), (0, _)] _ _ _
  refine St.block ?_
  replace hS : Stars (_ :: _ :: _ :: _ :: rs) _ := hS.top 3 rfl
  replace hS : Stars (_ :: _ :: _ :: _ :: rs) _ := hS.top 1 rfl
  replace hS : Stars (_ :: _ :: _ :: _ :: rs) _ := hS.top 3 rfl
  replace hS : Stars (_ :: _ :: _ :: _ :: rs) _ := hS.top 3 rfl
  refine St.loopw (Y := Nat × List (Int × Value)) (fun y => [(15, .int .i64 (y.1 : Nat))]) [14, 13, 2, 0] (fun y τ => Stars (pt tb (.cells #[.slice p es.length c, v1, .map (some mb), v3] 70 (0, 0)) :: mapA encI mb y.2 :: rowsA 3 1 encSent idxC b9 (sendsOf es y.1) :: ro ρ :: rs) τ ∧ y.1 ≤ es.length ∧ BadIs y.2 (fun q => f q || (q == 2 && behindB es y.1))) (fun y => es.length - y.1) ((0, al)) rfl (⟨hS, Nat.zero_le _, hbad.congr (fun q => by simp [behindB])⟩) ?_
  intro ⟨i, al⟩ τ ⟨hS, hle, hbad⟩ back
  simp only [] at hS hle hbad
  show St _ _ _ [(15, _), (14, _), (13, _), (2, _), (0, _)] _ _ _
  refine St.seq ?_
  refine St.region rfl ?_
  refine Reg.q rfl rfl rfl (q_lt rfl rfl) ?_
  refine Reg.done ?_
  refine St.keep [15, 14, 13, 2, 0, 16] ?_
  show St _ _ _ [(16, _), (15, _), (14, _), (13, _), (2, _), (0, _)] _ _ _
  refine St.seq ?_
  refine St.cond rfl (fun hc0 => ?_) (fun hc0 => ?_)
  · simp at hc0
    obtain ⟨e, hi⟩ : ∃ e, es[i]? = some e := ⟨_, List.getElem?_eq_getElem hc0⟩
    obtain ⟨lb, lo, cs, TT, fz, rfl, hb, hlt, hr⟩ := hT.row hi
    have hok := hT.2 e (List.mem_of_getElem? hi)
    have hbs := behindB_succ hi
    have hsl := sendsOf_len es i (evSent e)
    refine St.skip ?_
    refine St.seq ?_
    refine St.block ?_
    refine St.seq ?_
    refine St.region rfl ?_
    refine Reg.q rfl rfl rfl (q_move rfl) ?_
    refine Reg.q rfl rfl rfl (q_indexAt se_22 rfl rfl rfl (by omega) rfl) ?_
    refine Reg.q rfl rfl rfl (q_loadA ac_39 rfl (hS.ro 3 rfl _ _ hb) (row_partN hr 0 19 (by decide) rfl rfl)) ?_
    refine Reg.x rfl rfl rfl (e_alloc zo_39 (fun b4 τ4 hb4 => ?_))
    replace hS : Stars (_ :: _ :: _ :: _ :: _ :: rs) _ := hS.fresh hb4
    refine Reg.q rfl rfl rfl (q_assign rfl) ?_
    refine Reg.no rfl rfl (e_store rfl rfl sz_39 rfl (hS.pt 0 rfl) (Nat.le_of_ble_eq_true rfl) rfl (storeN_row rfl) (fun τs3_5 hs3_5 hu3_5 => ?_))
    replace hS : Stars (_ :: _ :: _ :: _ :: _ :: rs) _ := (hS.top 0 rfl).ptU hu3_5 hs3_5
    refine Reg.done ?_
    refine St.keep [16, 15, 14, 13, 2, 0, 4, 3] ?_
    show St _ _ _ [(3, _), (4, _), (16, _), (15, _), (14, _), (13, _), (2, _), (0, _)] _ _ _
    refine St.seq ?_
    refine St.region rfl ?_
    refine Reg.q rfl rfl rfl (q_fieldAddr fo_39_2 rfl rfl) ?_
    refine Reg.q rfl rfl rfl (q_loadA ac_30 rfl (hS.pt 0 rfl) (rowN_row rfl)) ?_
    refine Reg.q rfl rfl rfl (q_fieldAddr fo_39_5 rfl rfl) ?_
    refine Reg.q rfl rfl rfl (q_fieldAddr fo_34_0 rfl rfl) ?_
    refine Reg.q rfl rfl rfl (q_load1 ac_3 rfl (hS.pt 0 rfl) rfl) ?_
    refine Reg.q rfl rfl rfl (q_fieldAddr fo_39_5 rfl rfl) ?_
    refine Reg.q rfl rfl rfl (q_fieldAddr fo_34_1 rfl rfl) ?_
    refine Reg.q rfl rfl rfl (q_load1 ac_31 rfl (hS.pt 0 rfl) rfl) ?_
    refine Reg.q rfl rfl rfl (q_build rfl zo_94 pl_94 (fillN_fill rfl)) ?_
    refine Reg.x rfl rfl rfl (e_alloc zo_94 (fun b5 τ5 hb5 => ?_))
    replace hS : Stars (_ :: _ :: _ :: _ :: _ :: _ :: rs) _ := hS.fresh hb5
    refine Reg.no rfl rfl (e_store rfl rfl sz_94 rfl (hS.pt 0 rfl) (Nat.le_of_ble_eq_true rfl) rfl (storeN_row rfl) (fun τs4_10 hs4_10 hu4_10 => ?_))
    replace hS : Stars (_ :: _ :: _ :: _ :: _ :: _ :: rs) _ := (hS.top 0 rfl).ptU hu4_10 hs4_10
    refine Reg.done ?_
    refine St.keep [3, 4, 16, 15, 14, 13, 2, 0, 5] ?_
    show St _ _ _ [(5, _), (3, _), (4, _), (16, _), (15, _), (14, _), (13, _), (2, _), (0, _)] _ _ _
    replace hS : Stars (_ :: _ :: _ :: _ :: _ :: _ :: rs) _ := hS.top 5 rfl
    replace hS : Stars (_ :: _ :: _ :: _ :: _ :: _ :: rs) _ := hS.top 2 rfl
    obtain ⟨ρ4, hs4, h4, hS'⟩ := hS.roNew
    replace hS := hS'
    replace hS : Stars (_ :: _ :: _ :: _ :: _ :: rs) _ := hS.top 1 rfl
    obtain ⟨ρ5, hs5, h5, hS'⟩ := hS.roNew
    replace hS := hS'
    have hs45 := hs4.trans hs5
    replace h4 := hs5 _ _ h4
    replace hS : Stars (_ :: _ :: _ :: _ :: rs) _ := hS.top 3 rfl
    replace hS : Stars (_ :: _ :: _ :: _ :: rs) _ := hS.top 3 rfl
    replace hS : Stars (_ :: _ :: _ :: _ :: rs) _ := hS.top 3 rfl
    refine St.block ?_
    refine St.seq ?_
    refine St.region rfl ?_
    refine Reg.q rfl rfl rfl (q_fieldAddr fo_39_0 rfl rfl) ?_
    refine Reg.q rfl rfl rfl (q_load1 ac_3 rfl (hS.ro 3 rfl _ _ h4) rfl) ?_
    refine Reg.q rfl rfl rfl (q_ieq rfl rfl) ?_
    refine Reg.q rfl rfl rfl (q_move rfl) ?_
    refine Reg.joinv 29 (.bool (isSend e)) 8 [5, 3, 4, 16, 15, 14, 13, 2, 0, 30, 31, 32] (fun hk5_11 => ?_) ?_
    · skip
      refine Reg.split (d := 33) rfl (fun hg33 => ?_) (fun hg33 => ?_)
      · skip
        refine Reg.q rfl rfl rfl (q_fieldAddr fo_39_1 rfl rfl) ?_
        refine Reg.q rfl rfl rfl (q_load1 ac_3 rfl (hS.ro 3 rfl _ _ h4) rfl) ?_
        refine Reg.q rfl rfl rfl (q_fieldAddr fo_39_5 rfl rfl) ?_
        refine Reg.q rfl rfl rfl (q_fieldAddr fo_34_0 rfl rfl) ?_
        refine Reg.q rfl rfl rfl (q_load1 ac_3 rfl (hS.ro 3 rfl _ _ h4) rfl) ?_
        refine Reg.q rfl rfl rfl (q_ieq rfl rfl) ?_
        refine Reg.q rfl rfl rfl (q_pickT rfl rfl) ?_
        refine Reg.q rfl rfl rfl (q_assign rfl) ?_
        exact Reg.meet 9 [5, 3, 4, 16, 15, 14, 13, 2, 0, 30, 31, 32] hk5_11 rfl (by simp only [isSend, hg33, Bool.true_and, Bool.false_and]) rfl rfl
      · skip
        refine Reg.skip rfl rfl rfl ?_
        refine Reg.skip rfl rfl rfl ?_
        refine Reg.skip rfl rfl rfl ?_
        refine Reg.skip rfl rfl rfl ?_
        refine Reg.skip rfl rfl rfl ?_
        refine Reg.skip rfl rfl rfl ?_
        refine Reg.q rfl rfl rfl (q_pickF rfl rfl) ?_
        refine Reg.q rfl rfl rfl (q_assign rfl) ?_
        exact Reg.meet 9 [5, 3, 4, 16, 15, 14, 13, 2, 0, 30, 31, 32] hk5_11 rfl (by simp only [isSend, hg33, Bool.true_and, Bool.false_and]) rfl rfl
    · skip
      refine Reg.done ?_
      refine St.keep [5, 3, 4, 16, 15, 14, 13, 2, 0, 29] ?_
      show St _ _ _ [(29, _), (5, _), (3, _), (4, _), (16, _), (15, _), (14, _), (13, _), (2, _), (0, _)] _ _ _
      refine St.cond rfl (fun hc1 => ?_) (fun hc1 => ?_)
      · skip
        replace hS : Stars (_ :: _ :: _ :: _ :: rs) _ := hS.top 2 rfl
        obtain ⟨al2, p2, c2, hlk, hS'⟩ := rows_open hS (evSent e)
        replace hS := hS'
        refine St.region rfl ?_
        refine Reg.q rfl rfl rfl (q_move rfl) ?_
        refine Reg.q rfl rfl rfl (q_loadA ac_94 rfl (hS.ro 5 rfl _ _ h5) (rowN_row rfl)) ?_
        refine Reg.q rfl rfl rfl (q_move rfl) ?_
        refine Reg.x rfl rfl rfl (e_buildSlice so_95 zo_3 zr_3_1 rfl rfl rfl (fillN_fill rfl) (fun b45 τ45 hb45 => ?_))
        replace hS : Stars (_ :: _ :: _ :: _ :: _ :: _ :: _ :: rs) _ := hS.fresh hb45
        refine Reg.x rfl rfl rfl (e_mapEntry Try.underlying92 key_94 zv_95 rfl (show _ = some (encSent (evSent e)) from rfl) (hS.map 2 rfl) (fun s46 τ46 hm46 hu46 => ?_))
        replace hS : Stars (_ :: _ :: _ :: _ :: _ :: _ :: _ :: rs) _ := (hS.top 2 rfl).mapEU hu46 hm46
        refine Reg.q rfl rfl rfl (QOp.eq (v' := .slice p2 (sendsOf es i (evSent e)).length c2) (q_extract rfl rfl) hlk) ?_
        refine Reg.x rfl rfl rfl (e_append rfl Try.underlying95 Try.underlying95 sb_3 zo_3 rfl rfl rfl (hS.own 2 rfl) (Rd.lit (hS.pt 1 rfl) rfl) (.inl (by omega)) (allFlat_mem rfl) (by omega) (by omega) (fun b47 o47 c47 τ47 hf47 hu47 ho47 => ?_))
        replace hS : Stars (_ :: _ :: _ :: _ :: _ :: _ :: _ :: rs) _ := (hS.top 2 rfl).ownU hf47 hu47 ho47
        refine Reg.q rfl rfl rfl (q_extract rfl rfl) ?_
        refine Reg.no rfl rfl (e_entryStore rfl rfl rfl (hS.mapE 1 rfl) (fun τ6_8 hm6_8 hu6_8 => ?_))
        replace hS : Stars (_ :: _ :: _ :: _ :: _ :: _ :: _ :: rs) _ := (hS.top 1 rfl).mapUE hu6_8 hm6_8
        refine Reg.done ?_
        refine St.keep [29, 5, 3, 4, 16, 15, 14, 13, 2, 0] ?_
        show St _ _ _ [(29, _), (5, _), (3, _), (4, _), (16, _), (15, _), (14, _), (13, _), (2, _), (0, _)] _ _ _
        rw [put_put] at hS
        replace hS : Stars (_ :: _ :: _ :: _ :: _ :: _ :: _ :: rs) _ := hS.top 1 rfl
        have e1 : ((sendsOf es i (evSent e)) ++ [i]).length = (sendsOf es i (evSent e)).length + 1 := by simp
        have e2 : ((sendsOf es i (evSent e)) ++ [i]).flatMap idxC = (sendsOf es i (evSent e)).flatMap idxC ++ idxC i := by simp
        replace hS : Stars (ownA 3 1 (some ⟨b47, o47, none⟩) ((sendsOf es i (evSent e)) ++ [i]).length c47 (((sendsOf es i (evSent e)) ++ [i]).flatMap idxC) :: _) _ := hS.imp fun h hx => by rw [e1, e2]; exact hx
        replace hS : Stars (_ :: _ :: _ :: _ :: _ :: _ :: _ :: rs) _ := hS.top 1 rfl
        replace hS : Stars (mapA encSent b9 (put al2 (evSent e) (.slice (some ⟨b47, o47, none⟩) ((sendsOf es i (evSent e)) ++ [i]).length c47)) :: _) _ := hS.imp fun h hx => by rw [e1]; exact hx
        replace hS : Stars (_ :: _ :: _ :: _ :: _ :: _ :: _ :: rs) _ := hS.top 3 rfl
        replace hS : Stars (_ :: _ :: _ :: _ :: _ :: _ :: _ :: rs) _ := hS.top 1 rfl
        replace hS : Stars (_ :: _ :: _ :: _ :: _ :: _ :: _ :: rs) _ := hS.top 2 rfl
        replace hS := rows_close hS
        replace hS := rowsA_congr (g' := sendsOf es (i + 1)) (fun q => by rw [sendsOf_succ hi]; simp [hc1]) hS
        replace hS : Stars (_ :: _ :: _ :: _ :: _ :: rs) _ := hS.top 1 rfl
        replace hS := hS.drop
        refine St.inBlock ?_
        refine St.inBlock ?_
        refine St.region rfl ?_
        refine Reg.q rfl rfl rfl (q_add rfl rfl (inc64 (by omega))) ?_
        refine Reg.q rfl rfl rfl (q_move rfl) ?_
        refine Reg.done ?_
        refine St.keep [29, 5, 3, 4, 16, 15, 14, 13, 2, 0] ?_
        show St _ _ _ [(15, _), (29, _), (5, _), (3, _), (4, _), (16, _), (15, _), (14, _), (13, _), (2, _), (0, _)] _ _ _
        replace hS : Stars (_ :: _ :: _ :: _ :: rs) _ := hS.top 3 rfl
        replace hS : Stars (ro ρ :: _) _ := hS.imp fun h hx => hs45.trans hx
        replace hS : Stars (_ :: _ :: _ :: _ :: rs) _ := hS.top 1 rfl
        replace hS : Stars (_ :: _ :: _ :: _ :: rs) _ := hS.top 3 rfl
        replace hS : Stars (_ :: _ :: _ :: _ :: rs) _ := hS.top 3 rfl
        refine St.conv (SubL.list (by rfl)) (Sub.rfl' _) (back ((i + 1, al)) _ ?_ ?_)
        · exact ⟨hS, by simp only []; omega, hbad.congr fun q => by simp only []; rw [hbs]; have : (e.kind == 2) = false := (by simp [isSend] at hc1; simp [hc1.1]); rw [this]; simp⟩
        · simp only []; omega
      · skip
        refine St.seq ?_
        refine St.region rfl ?_
        refine Reg.q rfl rfl rfl (q_fieldAddr fo_39_0 rfl rfl) ?_
        refine Reg.q rfl rfl rfl (q_load1 ac_3 rfl (hS.ro 3 rfl _ _ h4) rfl) ?_
        refine Reg.q rfl rfl rfl (q_ieq rfl rfl) ?_
        refine Reg.q rfl rfl rfl (q_assign rfl) ?_
        refine Reg.done ?_
        refine St.keep [29, 5, 3, 4, 16, 15, 14, 13, 2, 0, 49] ?_
        show St _ _ _ [(49, _), (29, _), (5, _), (3, _), (4, _), (16, _), (15, _), (14, _), (13, _), (2, _), (0, _)] _ _ _
        refine St.cond rfl (fun hc2 => ?_) (fun hc2 => ?_)
        · obtain ⟨al2, p2, c2, hm2, hlk, hrd⟩ := rows_at hS (i := 2) rfl (evSent e)
          have hns : isSend e = false := hc1
          refine St.seq ?_
          refine St.region rfl ?_
          refine Reg.q rfl rfl rfl (q_assign rfl) ?_
          refine Reg.done ?_
          refine St.keep [49, 29, 5, 3, 4, 16, 15, 14, 13, 2, 0, 6] ?_
          show St _ _ _ [(6, _), (49, _), (29, _), (5, _), (3, _), (4, _), (16, _), (15, _), (14, _), (13, _), (2, _), (0, _)] _ _ _
          refine St.seq ?_
          refine St.seq ?_
          refine St.region rfl ?_
          refine Reg.q rfl rfl rfl (q_move rfl) ?_
          refine Reg.q rfl rfl rfl (q_loadA ac_94 rfl (hS.ro 3 rfl _ _ h5) (rowN_row rfl)) ?_
          refine Reg.q rfl rfl rfl (q_lookup Try.underlying92 key_94 zv_95 rfl (show _ = some (encSent (evSent e)) from rfl) hm2 hlk) ?_
          refine Reg.q rfl rfl rfl (q_lenS rfl se_95 rfl) ?_
          refine Reg.q rfl rfl rfl (q_move rfl) ?_
          refine Reg.done ?_
          refine St.keep [6, 49, 29, 5, 3, 4, 16, 15, 14, 13, 2, 0, 55, 56, 57] ?_
          show St _ _ _ [(57, _), (56, _), (55, _), (6, _), (49, _), (29, _), (5, _), (3, _), (4, _), (16, _), (15, _), (14, _), (13, _), (2, _), (0, _)] _ _ _
          refine St.block ?_
          refine St.loopw (Y := Nat × Nat) (fun y => [(57, .int .i64 (y.1 : Nat)), (6, .int .i64 (y.2 : Nat))]) [56, 55, 49, 29, 5, 3, 4, 16, 15, 14, 13, 2, 0] (fun y τ => Stars (pt tb (.cells #[.slice (some ⟨lb, lo, none⟩) es.length c, v1, .map (some mb), v3] 70 (0, 0)) :: mapA encI mb al :: rowsA 3 1 encSent idxC b9 (sendsOf es i) :: ro ρ5 :: rs) τ ∧ y.1 ≤ (sendsOf es i (evSent e)).length ∧ Rd τ 1 p2 (sendsOf es i (evSent e)).length ((sendsOf es i (evSent e)).flatMap idxC) ∧ y.2 = (((sendsOf es i (evSent e)).take y.1).filter fun j => sameAt es j e.m).length) (fun y => (sendsOf es i (evSent e)).length - y.1) ((0, 0)) rfl (⟨hS, Nat.zero_le _, hrd, rfl⟩) ?_
          intro ⟨j, n⟩ τ ⟨hS, hj, hrd, hn⟩ back2
          simp only [] at hS hj hn
          show St _ _ _ [(57, _), (6, _), (56, _), (55, _), (49, _), (29, _), (5, _), (3, _), (4, _), (16, _), (15, _), (14, _), (13, _), (2, _), (0, _)] _ _ _
          refine St.seq ?_
          refine St.region rfl ?_
          refine Reg.q rfl rfl rfl (q_lt rfl rfl) ?_
          refine Reg.done ?_
          refine St.keep [57, 6, 56, 55, 49, 29, 5, 3, 4, 16, 15, 14, 13, 2, 0, 58] ?_
          show St _ _ _ [(58, _), (57, _), (6, _), (56, _), (55, _), (49, _), (29, _), (5, _), (3, _), (4, _), (16, _), (15, _), (14, _), (13, _), (2, _), (0, _)] _ _ _
          refine St.seq ?_
          refine St.cond rfl (fun hc3 => ?_) (fun hc3 => ?_)
          · simp at hc3
            obtain ⟨x, hx⟩ : ∃ x, (sendsOf es i (evSent e))[j]? = some x := ⟨_, List.getElem?_eq_getElem hc3⟩
            have hxi := sendsOf_lt (List.mem_of_getElem? hx)
            obtain ⟨b1, o1, cs1, T1, f1, rfl, hb1, hl1, hr1⟩ := Rd.row idxC_len (by decide) hrd hx
            obtain ⟨ej, hej⟩ : ∃ ej, es[x]? = some ej := ⟨_, List.getElem?_eq_getElem (by omega)⟩
            obtain ⟨lb2, lo2, cs2, T2, f2, hp2, hb2, hlt2, hr2⟩ := hT.row hej
            cases hp2
            replace hb2 := hs45 _ _ hb2
            have hokj := hT.2 ej (List.mem_of_getElem? hej)
            have hft := filt_take hx (fun j => sameAt es j e.m)
            rw [sameAt_some hej] at hft
            have hsr := hs45.trans (hS.ro 3 rfl)
            have hnj := List.length_filter_le (fun j => sameAt es j e.m) ((sendsOf es i (evSent e)).take j)
            rw [List.length_take, ← hn] at hnj
            refine St.skip ?_
            refine St.seq ?_
            refine St.block ?_
            refine St.seq ?_
            refine St.region rfl ?_
            refine Reg.q rfl rfl rfl (q_indexAt se_95 rfl rfl rfl (by omega) rfl) ?_
            refine Reg.q rfl rfl rfl (q_load1 ac_3 rfl hb1 (row_cell hr1 0 rfl)) ?_
            refine Reg.q rfl rfl rfl (q_assign rfl) ?_
            refine Reg.done ?_
            refine St.keep [58, 57, 6, 56, 55, 49, 29, 5, 3, 4, 16, 15, 14, 13, 2, 0, 8] ?_
            show St _ _ _ [(8, _), (58, _), (57, _), (6, _), (56, _), (55, _), (49, _), (29, _), (5, _), (3, _), (4, _), (16, _), (15, _), (14, _), (13, _), (2, _), (0, _)] _ _ _
            refine St.seq ?_
            refine St.draw0 [10] [(0, .w), (1, .w), (2, .w), (3, .r), (4, .w), (5, .w), (6, .w), (7, .r), (8, .w), (9, .r), (10, .x)] mixed (by kernel_rfl) rfl ?_
            refine Dr.w rfl rfl rfl rfl (q_move rfl) ?_
            refine Dr.w rfl rfl rfl rfl (q_nil rfl) ?_
            refine Dr.w rfl rfl rfl rfl (q_fieldAddr fo_70_0 rfl rfl) ?_
            refine Dr.r rfl rfl rfl rfl (Sub.rfl' _) (q_load1 ac_22 rfl (hS.pt 0 rfl) rfl) ?_
            refine Dr.w rfl rfl rfl rfl (q_move rfl) ?_
            refine Dr.w rfl rfl rfl rfl (q_indexAt se_22 rfl rfl rfl (by omega) rfl) ?_
            refine Dr.w rfl rfl rfl rfl (q_fieldAddr fo_39_5 rfl rfl) ?_
            refine Dr.r rfl rfl rfl rfl (Sub.rfl' _) (q_loadA ac_34 rfl (hS.ro 3 rfl _ _ hb2) (row_partN hr2 7 6 (by decide) rfl rfl)) ?_
            refine Dr.w rfl rfl rfl rfl (q_fieldAddr fo_39_5 rfl rfl) ?_
            refine Dr.r rfl rfl rfl rfl (Sub.rfl' _) (q_loadA ac_34 rfl (hS.ro 3 rfl _ _ h4) (rowN_row rfl)) ?_
            refine Dr.x rfl rfl rfl rfl (e_callF rfl rfl rfl ca_34 ((jsame_spec _ ej.m e.m (hokj.1.up hsr) (hok.1.up hsr)).mono fun v71 τ71 h71 => ?_))
            obtain ⟨rfl, rfl⟩ := h71
            refine ⟨.inl rfl, ?_⟩
            refine Dr.done ?_
            refine St.keep [8, 58, 57, 6, 56, 55, 49, 29, 5, 3, 4, 16, 15, 14, 13, 2, 0, 71] ?_
            show St _ _ _ [(71, _), (8, _), (58, _), (57, _), (6, _), (56, _), (55, _), (49, _), (29, _), (5, _), (3, _), (4, _), (16, _), (15, _), (14, _), (13, _), (2, _), (0, _)] _ _ _
            refine St.cond rfl (fun hc4 => ?_) (fun hc4 => ?_)
            · skip
              refine St.region rfl ?_
              refine Reg.q rfl rfl rfl (q_move rfl) ?_
              refine Reg.q rfl rfl rfl (q_add rfl rfl (inc64 (by omega))) ?_
              refine Reg.q rfl rfl rfl (q_assign rfl) ?_
              refine Reg.done ?_
              refine St.keep [71, 8, 58, 57, 6, 56, 55, 49, 29, 5, 3, 4, 16, 15, 14, 13, 2, 0] ?_
              show St _ _ _ [(6, _), (71, _), (8, _), (58, _), (57, _), (6, _), (56, _), (55, _), (49, _), (29, _), (5, _), (3, _), (4, _), (16, _), (15, _), (14, _), (13, _), (2, _), (0, _)] _ _ _
              refine St.inBlock ?_
              refine St.region rfl ?_
              refine Reg.q rfl rfl rfl (q_add rfl rfl (inc64 (by omega))) ?_
              refine Reg.q rfl rfl rfl (q_move rfl) ?_
              refine Reg.done ?_
              refine St.keep [6, 71, 8, 58, 57, 6, 56, 55, 49, 29, 5, 3, 4, 16, 15, 14, 13, 2, 0] ?_
              show St _ _ _ [(57, _), (6, _), (71, _), (8, _), (58, _), (57, _), (6, _), (56, _), (55, _), (49, _), (29, _), (5, _), (3, _), (4, _), (16, _), (15, _), (14, _), (13, _), (2, _), (0, _)] _ _ _
              refine St.conv (SubL.list (by rfl)) (Sub.rfl' _) (back2 ((j + 1, n + 1)) _ ?_ ?_)
              · exact ⟨hS, by simp only []; omega, hrd, by simp only []; rw [hft, hc4, hn]; rfl⟩
              · simp only []; omega
            · skip
              refine St.skip ?_
              refine St.inBlock ?_
              refine St.region rfl ?_
              refine Reg.q rfl rfl rfl (q_add rfl rfl (inc64 (by omega))) ?_
              refine Reg.q rfl rfl rfl (q_move rfl) ?_
              refine Reg.done ?_
              refine St.keep [71, 8, 58, 57, 6, 56, 55, 49, 29, 5, 3, 4, 16, 15, 14, 13, 2, 0] ?_
              show St _ _ _ [(57, _), (71, _), (8, _), (58, _), (57, _), (6, _), (56, _), (55, _), (49, _), (29, _), (5, _), (3, _), (4, _), (16, _), (15, _), (14, _), (13, _), (2, _), (0, _)] _ _ _
              refine St.conv (SubL.list (by rfl)) (Sub.rfl' _) (back2 ((j + 1, n)) _ ?_ ?_)
              · exact ⟨hS, by simp only []; omega, hrd, by simp only []; rw [hft, hc4, hn]; rfl⟩
              · simp only []; omega
          · simp at hc3
            obtain rfl : j = (sendsOf es i (evSent e)).length := by omega
            rw [List.take_length] at hn
            refine St.exit rfl ?_
            refine St.region rfl ?_
            refine Reg.q rfl rfl rfl (q_move rfl) ?_
            refine Reg.q rfl rfl rfl (q_move rfl) ?_
            refine Reg.q rfl rfl rfl (q_ine rfl rfl) ?_
            refine Reg.x rfl rfl rfl (e_callF rfl rfl rfl ca_35 ((jbreaks_spec _ _ _ _ _ _ _ _ hS _ _).mono fun v78 τ78 h78 => ?_))
            replace hS := h78
            replace hbad := hbad.brk 2 ((n : Int) != 1)
            refine Reg.done ?_
            refine St.keep [58, 57, 6, 56, 55, 49, 29, 5, 3, 4, 16, 15, 14, 13, 2, 0] ?_
            show St _ _ _ [(58, _), (57, _), (6, _), (56, _), (55, _), (49, _), (29, _), (5, _), (3, _), (4, _), (16, _), (15, _), (14, _), (13, _), (2, _), (0, _)] _ _ _
            refine St.inBlock ?_
            refine St.inBlock ?_
            refine St.region rfl ?_
            refine Reg.q rfl rfl rfl (q_add rfl rfl (inc64 (by omega))) ?_
            refine Reg.q rfl rfl rfl (q_move rfl) ?_
            refine Reg.done ?_
            refine St.keep [58, 57, 6, 56, 55, 49, 29, 5, 3, 4, 16, 15, 14, 13, 2, 0] ?_
            show St _ _ _ [(15, _), (58, _), (57, _), (6, _), (56, _), (55, _), (49, _), (29, _), (5, _), (3, _), (4, _), (16, _), (15, _), (14, _), (13, _), (2, _), (0, _)] _ _ _
            replace hS : Stars (_ :: _ :: _ :: _ :: rs) _ := hS.top 3 rfl
            replace hS : Stars (ro ρ :: _) _ := hS.imp fun h hx => hs45.trans hx
            replace hS : Stars (_ :: _ :: _ :: _ :: rs) _ := hS.top 3 rfl
            replace hS := rowsA_congr (g' := sendsOf es (i + 1)) (fun q => (sendsOf_not hi hns q).symm) hS
            replace hS : Stars (_ :: _ :: _ :: _ :: rs) _ := hS.top 1 rfl
            replace hS : Stars (_ :: _ :: _ :: _ :: rs) _ := hS.top 1 rfl
            replace hS : Stars (_ :: _ :: _ :: _ :: rs) _ := hS.top 3 rfl
            replace hS : Stars (_ :: _ :: _ :: _ :: rs) _ := hS.top 3 rfl
            refine St.conv (SubL.list (by rfl)) (Sub.rfl' _) (back ((i + 1, if (n : Int) != 1 then put al 2 (.bool true) else al)) _ ?_ ?_)
            · exact ⟨hS, by simp only []; omega, hbad.congr fun q => by simp only []; rw [hbs, hc2, hn, cnt]; cases (q == 2) <;> simp [Bool.or_assoc]⟩
            · simp only []; omega
        · skip
          refine St.skip ?_
          refine St.inBlock ?_
          refine St.inBlock ?_
          refine St.region rfl ?_
          refine Reg.q rfl rfl rfl (q_add rfl rfl (inc64 (by omega))) ?_
          refine Reg.q rfl rfl rfl (q_move rfl) ?_
          refine Reg.done ?_
          refine St.keep [49, 29, 5, 3, 4, 16, 15, 14, 13, 2, 0] ?_
          show St _ _ _ [(15, _), (49, _), (29, _), (5, _), (3, _), (4, _), (16, _), (15, _), (14, _), (13, _), (2, _), (0, _)] _ _ _
          replace hS : Stars (_ :: _ :: _ :: _ :: rs) _ := hS.top 3 rfl
          replace hS : Stars (ro ρ :: _) _ := hS.imp fun h hx => hs45.trans hx
          replace hS : Stars (_ :: _ :: _ :: _ :: rs) _ := hS.top 3 rfl
          replace hS := rowsA_congr (g' := sendsOf es (i + 1)) (fun q => (sendsOf_not hi hc1 q).symm) hS
          replace hS : Stars (_ :: _ :: _ :: _ :: rs) _ := hS.top 1 rfl
          replace hS : Stars (_ :: _ :: _ :: _ :: rs) _ := hS.top 1 rfl
          replace hS : Stars (_ :: _ :: _ :: _ :: rs) _ := hS.top 3 rfl
          replace hS : Stars (_ :: _ :: _ :: _ :: rs) _ := hS.top 3 rfl
          refine St.conv (SubL.list (by rfl)) (Sub.rfl' _) (back ((i + 1, al)) _ ?_ ?_)
          · exact ⟨hS, by simp only []; omega, hbad.congr fun q => by simp only []; rw [hbs, hc2]; simp⟩
          · simp only []; omega
  · simp at hc0
    obtain rfl : i = es.length := by omega
    refine St.exit rfl ?_
    refine St.fin Try.func19 .nil (Sub.rfl' _) ?_
    replace hS : Stars (_ :: _ :: _ :: _ :: rs) _ := hS.top 2 rfl
    replace hS := hS.drop
    exact ⟨_, hS, hbad⟩
end Go.Proofs.Ytdgdbnkhmdncdaa
