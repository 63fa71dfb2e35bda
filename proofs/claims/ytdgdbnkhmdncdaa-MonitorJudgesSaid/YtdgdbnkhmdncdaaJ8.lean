/- The judge: those that go on together, and what is safe. -/
import Derived.Test.YtdgdbnkhmdncdaaJ7
set_option linter.unusedSectionVars false
set_option linter.unusedSimpArgs false
set_option linter.unusedVariables false
namespace Go.Proofs.Ytdgdbnkhmdncdaa
open Go.Gw Go.Cs
variable [Env]
set_option maxHeartbeats 4000000
namespace FJ8
theorem ac_103 : aggCells Try.prog 103 = some (some 8) := by kernel_rfl
theorem ac_28 : aggCells Try.prog 28 = some none := by kernel_rfl
theorem ac_3 : aggCells Try.prog 3 = some none := by kernel_rfl
theorem ac_34 : aggCells Try.prog 34 = some (some 6) := by kernel_rfl
theorem ac_4 : aggCells Try.prog 4 = some none := by kernel_rfl
theorem ac_59 : aggCells Try.prog 59 = some none := by kernel_rfl
theorem ac_63 : aggCells Try.prog 63 = some none := by kernel_rfl
theorem ac_99 : aggCells Try.prog 99 = some none := by kernel_rfl
theorem ca_22 : callable Try.prog 22 = true := by kernel_rfl
theorem ca_34 : callable Try.prog 34 = true := by kernel_rfl
theorem ca_35 : callable Try.prog 35 = true := by kernel_rfl
theorem ca_49 : callable Try.prog 49 = true := by kernel_rfl
theorem ca_56 : callable Try.prog 56 = true := by kernel_rfl
theorem ca_57 : callable Try.prog 57 = true := by kernel_rfl
theorem fo_101_0 : fieldOff Try.prog 101 0 = some 0 := by kernel_rfl
theorem fo_101_2 : fieldOff Try.prog 101 2 = some 3 := by kernel_rfl
theorem fo_101_3 : fieldOff Try.prog 101 3 = some 4 := by kernel_rfl
theorem fo_101_4 : fieldOff Try.prog 101 4 = some 5 := by kernel_rfl
theorem fo_103_1 : fieldOff Try.prog 103 1 = some 1 := by kernel_rfl
theorem fo_103_2 : fieldOff Try.prog 103 2 = some 7 := by kernel_rfl
theorem fo_34_3 : fieldOff Try.prog 34 3 = some 3 := by kernel_rfl
theorem fo_39_4 : fieldOff Try.prog 39 4 = some 6 := by kernel_rfl
theorem sb_34 : sizeBytes Try.prog 34 = some (6, 72) := by kernel_rfl
theorem se_99 : sliceElem Try.prog 99 = some 8 := by kernel_rfl
theorem so_60 : sliceOf Try.prog 60 = some (34, 6) := by kernel_rfl
theorem sz_103 : szOf Try.prog 103 = some 8 := by kernel_rfl
theorem zo_103 : zeroOf Try.prog 103 = some #[.int .i64 0, .int .i64 0, .int .u32 0, .int .u64 0, .int .i64 0, .slice none 0 0, .string ⟨#[]⟩, .bool false] := by kernel_rfl
theorem zo_34 : zeroOf Try.prog 34 = some #[.int .i64 0, .int .u32 0, .int .u64 0, .int .i64 0, .slice none 0 0, .string ⟨#[]⟩] := by kernel_rfl
theorem zr_34_1 : zrow #[.int .i64 0, .int .u32 0, .int .u64 0, .int .i64 0, .slice none 0 0, .string ⟨#[]⟩] (1 * 6) = #[.int .i64 0, .int .u32 0, .int .u64 0, .int .i64 0, .slice none 0 0, .string ⟨#[]⟩] := by kernel_rfl
end FJ8
open FJ8

theorem part_len (s : JSt) (tr : Bool) : (partOf s tr).length ≤ s.gots.length := by
  unfold partOf; rw [List.length_map]; exact List.length_filter_le _ _
theorem part_ok {ρ : Heap} {es : List Ev} {p sp : Option Addr} {bs : List Nat} {ss : List JSt} (h : StaysIs ρ es p sp bs ss) (hT : TraceIs ρ p es) {s : JSt} (hs : s ∈ ss) {tr : Bool} {m : Msg} (hm : m ∈ partOf s tr) : m.ok ρ := by
  obtain ⟨g, hg, rfl⟩ := List.mem_map.1 hm
  exact h.ok hT hs (List.mem_filter.1 hg).1

theorem jhasx_spec (σ : Heap) (bm : Nat) (m : Msg) (g : Got) (hm : σ bm = some (.cells #[.int .i64 m.frm, .int .u32 m.seq, .int .u64 m.stamp, .int .i64 m.svc, .slice m.dp m.deps.length m.dc, .string m.pay] 34 (0, 0))) (hgk : g.m.ok σ) (hmk : m.ok σ) : Does Try.prog 57 #[g.v, .pointer (some ⟨bm, 0, none⟩)] σ (fun v τ => v = .bool (same g.m m) ∧ σ = τ) := by
  refine Does.enter (n := 8) (l := [(0, _), (1, _)]) Try.func57 rfl rfl (by simp) rfl ?_
  have hsub : Sub σ σ := Sub.rfl' σ
  refine St.seq ?_
  refine St.region rfl ?_
  refine Reg.x rfl rfl rfl (e_box rfl (cellsN_eq rfl) (fun b2 τ2 hb2 => ?_))
  have h2 := hb2.at_
  replace hsub := hsub.trans hb2.sub
  refine Reg.q rfl rfl rfl (q_assign rfl) ?_
  refine Reg.done ?_
  refine St.keep [0, 1, 2, 3] ?_
  show St _ _ _ [(3, _), (2, _), (0, _), (1, _)] _ _ _
  refine St.seq ?_
  refine St.region rfl ?_
  refine Reg.q rfl rfl rfl (q_fieldAddr fo_103_1 rfl rfl) ?_
  refine Reg.q rfl rfl rfl (q_loadA ac_34 rfl h2 (rowN_row rfl)) ?_
  refine Reg.q rfl rfl rfl (q_loadA ac_34 rfl (hsub _ _ hm) (rowN_row rfl)) ?_
  refine Reg.x rfl rfl rfl (e_callF rfl rfl rfl ca_34 ((jsame_spec _ g.m m (hgk.up hsub) (hmk.up hsub)).mono fun v7 τ7 h7 => ?_))
  obtain ⟨rfl, rfl⟩ := h7
  refine Reg.q rfl rfl rfl (q_assign rfl) ?_
  refine Reg.done ?_
  refine St.keep [3, 2, 0, 1] ?_
  show St _ _ _ [(3, _), (3, _), (2, _), (0, _), (1, _)] _ _ _
  refine St.ret Try.func57 (.tmp rfl .nil) hsub ?_
  exact ⟨rfl, rfl⟩

theorem jhas_spec (σ : Heap) (b : Nat) (p : Option Addr) (bs : List Nat) (s : JSt) (gp : Option Addr) (gc : Nat) (up : Option Addr) (uc : Nat) (hst : σ b = some (.cells (stayC p bs s gp gc up uc) 101 (0, 0))) (hrd : Rd σ 8 gp s.gots.length (s.gots.flatMap Got.cells)) (hb : s.gots.length ≤ 100000) (hok : ∀ g ∈ s.gots, g.m.ok σ) (m : Msg) (hm : m.ok σ) : Does Try.prog 49 #[.pointer (some ⟨b, 0, none⟩), m.v] σ (fun v τ => v = .bool (s.gots.any fun h => same h.m m) ∧ σ = τ) := by
  refine Does.enter (n := 11) (l := [(0, _), (1, _)]) Try.func49 rfl rfl (by simp) rfl ?_
  have hsub : Sub σ σ := Sub.rfl' σ
  refine St.seq ?_
  refine St.region rfl ?_
  refine Reg.x rfl rfl rfl (e_box rfl (cellsN_eq rfl) (fun b3 τ3 hb3 => ?_))
  have h3 := hb3.at_
  replace hsub := hsub.trans hb3.sub
  refine Reg.q rfl rfl rfl (q_assign rfl) ?_
  refine Reg.done ?_
  refine St.keep [0, 1, 3, 4] ?_
  show St _ _ _ [(4, _), (3, _), (0, _), (1, _)] _ _ _
  refine St.seq ?_
  refine St.region rfl ?_
  refine Reg.q rfl rfl rfl (q_move rfl) ?_
  refine Reg.q rfl rfl rfl (q_nil rfl) ?_
  refine Reg.q rfl rfl rfl (q_fieldAddr fo_101_3 rfl rfl) ?_
  refine Reg.q rfl rfl rfl (q_load1 ac_99 rfl (hsub _ _ hst) rfl) ?_
  refine Reg.q rfl rfl rfl (q_makeFunc (us := #[]) (vs := #[.pointer (some ⟨b3, 0, none⟩)]) (by simp) (by simp only [List.map_toArray]; rfl)) ?_
  refine Reg.x rfl rfl rfl (e_callF rfl rfl rfl ca_56 ((cof_g _ _ _ _ _ (Rd.up hrd hsub) (by omega) 57 #[] #[.pointer (some ⟨b3, 0, none⟩)] (fun g => same g.m m) ca_57 (fun g hg => jhasx_spec _ b3 m g h3 ((hok g hg).up hsub) (hm.up hsub))).mono fun v10 τ10 h10 => ?_))
  obtain ⟨rfl, rfl⟩ := h10
  refine Reg.q rfl rfl rfl (q_assign rfl) ?_
  refine Reg.done ?_
  refine St.keep [4, 3, 0, 1] ?_
  show St _ _ _ [(4, _), (4, _), (3, _), (0, _), (1, _)] _ _ _
  refine St.ret Try.func49 (.tmp rfl .nil) hsub ?_
  exact ⟨rfl, rfl⟩

theorem jpart_spec (σ : Heap) (es : List Ev) (b : Nat) (p : Option Addr) (bs : List Nat) (gp : Option Addr) (gc : Nat) (up : Option Addr) (uc : Nat) (s : JSt) (hst : σ b = some (.cells (stayC p bs s gp gc up uc) 101 (0, 0))) (hrd : Rd σ 8 gp s.gots.length (s.gots.flatMap Got.cells)) (hb : s.gots.length ≤ 100000) (tr : Bool) : Does Try.prog 37 #[.pointer (some ⟨b, 0, none⟩), .bool tr] σ (fun v τ => ∃ q c, v = .slice q (partOf s tr).length c ∧ Sub σ τ ∧ Rd τ 6 q (partOf s tr).length ((partOf s tr).flatMap Msg.cells)) := by
  refine Does.enter (n := 28) (l := [(0, _), (1, _)]) Try.func37 rfl rfl (by simp) rfl ?_
  have hS : Stars (ro σ :: []) σ := Stars.ro0 σ
  refine St.seq ?_
  refine St.region rfl ?_
  refine Reg.q rfl rfl rfl (q_assign rfl) ?_
  refine Reg.done ?_
  refine St.keep [0, 1, 4] ?_
  show St _ _ _ [(4, _), (0, _), (1, _)] _ _ _
  refine St.seq ?_
  refine St.region rfl ?_
  refine Reg.q rfl rfl rfl (q_assign rfl) ?_
  refine Reg.done ?_
  refine St.keep [4, 0, 1, 5] ?_
  show St _ _ _ [(5, _), (4, _), (0, _), (1, _)] _ _ _
  refine St.seq ?_
  refine St.seq ?_
  refine St.region rfl ?_
  refine Reg.q rfl rfl rfl (q_move rfl) ?_
  refine Reg.q rfl rfl rfl (q_nil rfl) ?_
  refine Reg.q rfl rfl rfl (q_fieldAddr fo_101_3 rfl rfl) ?_
  refine Reg.q rfl rfl rfl (q_load1 ac_99 rfl (hS.ro 0 rfl _ _ hst) rfl) ?_
  refine Reg.q rfl rfl rfl (q_lenS rfl se_99 rfl) ?_
  refine Reg.q rfl rfl rfl (q_move rfl) ?_
  refine Reg.done ?_
  refine St.keep [5, 4, 0, 1, 11, 12, 13] ?_
  show St _ _ _ [(13, _), (12, _), (11, _), (5, _), (4, _), (0, _), (1, _)] _ _ _
  refine St.block ?_
  replace hS : Stars (ownA 34 6 none 0 0 [] :: _) _ := hS.ownNil
  refine St.loopw (Y := Nat × Option Addr × Nat × Nat) (fun y => [(13, .int .i64 (y.1 : Nat)), (5, .slice y.2.1 y.2.2.2 y.2.2.1)]) [12, 11, 4, 0, 1] (fun y τ => Stars (ownA 34 6 y.2.1 y.2.2.2 y.2.2.1 ((((s.gots.take y.1).filter fun g => g.tr == tr).map (·.m)).flatMap Msg.cells) :: ro σ :: []) τ ∧ y.1 ≤ s.gots.length ∧ y.2.2.2 = (((s.gots.take y.1).filter fun g => g.tr == tr).map (·.m)).length) (fun y => s.gots.length - y.1) ((0, none, 0, 0)) rfl (⟨hS, Nat.zero_le _, rfl⟩) ?_
  intro ⟨j, q, qc, n⟩ τ ⟨hS, hj, hn⟩ back
  simp only [] at hS hj hn
  show St _ _ _ [(13, _), (5, _), (12, _), (11, _), (4, _), (0, _), (1, _)] _ _ _
  refine St.seq ?_
  refine St.region rfl ?_
  refine Reg.q rfl rfl rfl (q_lt rfl rfl) ?_
  refine Reg.done ?_
  refine St.keep [13, 5, 12, 11, 4, 0, 1, 14] ?_
  show St _ _ _ [(14, _), (13, _), (5, _), (12, _), (11, _), (4, _), (0, _), (1, _)] _ _ _
  refine St.seq ?_
  refine St.cond rfl (fun hc0 => ?_) (fun hc0 => ?_)
  · simp at hc0
    obtain ⟨g, hg⟩ : ∃ g, s.gots[j]? = some g := ⟨_, List.getElem?_eq_getElem hc0⟩
    obtain ⟨bg, og, csg, Tg, fg, hgp, hbg, hlg, hrg⟩ := Rd.row Got.cells_len (by decide) hrd hg
    have hpl : (((s.gots.take j).filter fun g => g.tr == tr).map (·.m)).length ≤ j := by rw [List.length_map]; exact Nat.le_trans (List.length_filter_le _ _) (List.length_take_le _ _)
    have hts : (s.gots.take (j + 1)) = s.gots.take j ++ [g] := by rw [List.take_add_one, hg]; rfl
    refine St.skip ?_
    refine St.seq ?_
    refine St.block ?_
    refine St.seq ?_
    refine St.region rfl ?_
    refine Reg.q rfl rfl rfl (q_indexAt se_99 rfl hgp rfl (by omega) rfl) ?_
    refine Reg.q rfl rfl rfl (q_loadA ac_103 rfl (hS.ro 1 rfl _ _ hbg) (row_partN hrg 0 8 (by decide) rfl rfl)) ?_
    refine Reg.x rfl rfl rfl (e_alloc zo_103 (fun b7 τ7 hb7 => ?_))
    replace hS : Stars (_ :: _ :: _ :: []) _ := hS.fresh hb7
    refine Reg.no rfl rfl (e_store rfl rfl sz_103 rfl (hS.pt 0 rfl) (Nat.le_of_ble_eq_true rfl) rfl (storeN_row rfl) (fun τs4_3 hs4_3 hu4_3 => ?_))
    replace hS : Stars (_ :: _ :: _ :: []) _ := (hS.top 0 rfl).ptU hu4_3 hs4_3
    refine Reg.done ?_
    refine St.keep [14, 13, 5, 12, 11, 4, 0, 1, 7] ?_
    show St _ _ _ [(7, _), (14, _), (13, _), (5, _), (12, _), (11, _), (4, _), (0, _), (1, _)] _ _ _
    refine St.seq ?_
    refine St.region rfl ?_
    refine Reg.q rfl rfl rfl (q_fieldAddr fo_103_2 rfl rfl) ?_
    refine Reg.q rfl rfl rfl (q_load1 ac_4 rfl (hS.pt 0 rfl) rfl) ?_
    refine Reg.q rfl rfl rfl (q_move rfl) ?_
    refine Reg.q rfl rfl rfl (q_beq Try.underlying4 rfl rfl) ?_
    refine Reg.done ?_
    refine St.keep [7, 14, 13, 5, 12, 11, 4, 0, 1, 20] ?_
    show St _ _ _ [(20, _), (7, _), (14, _), (13, _), (5, _), (12, _), (11, _), (4, _), (0, _), (1, _)] _ _ _
    refine St.cond rfl (fun hc1 => ?_) (fun hc1 => ?_)
    · have hpn : ((s.gots.take (j + 1)).filter fun g => g.tr == tr).map (·.m) = ((s.gots.take j).filter fun g => g.tr == tr).map (·.m) ++ [g.m] := by rw [hts, List.filter_append, List.map_append]; simp [hc1]
      have e1 : (((s.gots.take (j + 1)).filter fun g => g.tr == tr).map (·.m)).length = (((s.gots.take j).filter fun g => g.tr == tr).map (·.m)).length + 1 := by rw [hpn]; simp
      have e2 : (((s.gots.take (j + 1)).filter fun g => g.tr == tr).map (·.m)).flatMap Msg.cells = (((s.gots.take j).filter fun g => g.tr == tr).map (·.m)).flatMap Msg.cells ++ g.m.cells := by rw [hpn]; simp
      refine St.region rfl ?_
      refine Reg.q rfl rfl rfl (q_move rfl) ?_
      refine Reg.q rfl rfl rfl (q_fieldAddr fo_103_1 rfl rfl) ?_
      refine Reg.q rfl rfl rfl (q_loadA ac_34 rfl (hS.pt 0 rfl) (rowN_row rfl)) ?_
      refine Reg.x rfl rfl rfl (e_buildSlice so_60 zo_34 zr_34_1 rfl rfl rfl (fillN_fill rfl) (fun b24 τ24 hb24 => ?_))
      replace hS : Stars (_ :: _ :: _ :: _ :: []) _ := hS.fresh hb24
      refine Reg.x rfl rfl rfl (e_append rfl Try.underlying60 Try.underlying60 sb_34 zo_34 rfl rfl rfl (hS.own 2 rfl) (Rd.lit (hS.pt 0 rfl) rfl) (.inl (by omega)) (allFlat_mem rfl) (by simp only []; omega) (by simp only []; omega) (fun b25 o25 c25 τ25 hf25 hu25 ho25 => ?_))
      replace hS : Stars (_ :: _ :: _ :: _ :: []) _ := (hS.top 2 rfl).ownU hf25 hu25 ho25
      refine Reg.q rfl rfl rfl (q_assign rfl) ?_
      refine Reg.done ?_
      refine St.keep [20, 7, 14, 13, 5, 12, 11, 4, 0, 1] ?_
      show St _ _ _ [(5, _), (20, _), (7, _), (14, _), (13, _), (5, _), (12, _), (11, _), (4, _), (0, _), (1, _)] _ _ _
      refine St.inBlock ?_
      refine St.region rfl ?_
      refine Reg.q rfl rfl rfl (q_add rfl rfl (inc64 (by omega))) ?_
      refine Reg.q rfl rfl rfl (q_move rfl) ?_
      refine Reg.done ?_
      refine St.keep [5, 20, 7, 14, 13, 5, 12, 11, 4, 0, 1] ?_
      show St _ _ _ [(13, _), (5, _), (20, _), (7, _), (14, _), (13, _), (5, _), (12, _), (11, _), (4, _), (0, _), (1, _)] _ _ _
      replace hS : Stars (_ :: _ :: _ :: _ :: []) _ := hS.top 2 rfl
      replace hS : Stars (_ :: _ :: _ :: _ :: []) _ := hS.top 2 rfl
      replace hS := hS.drop.drop
      refine St.conv (SubL.list (by rfl)) (Sub.rfl' _) (back ((j + 1, some ⟨b25, o25, none⟩, c25, n + 1)) _ ?_ ?_)
      · exact ⟨by simp only []; rw [e2]; exact hS, by simp only []; omega, by simp only []; omega⟩
      · simp only []; omega
    · have hpn : ((s.gots.take (j + 1)).filter fun g => g.tr == tr).map (·.m) = ((s.gots.take j).filter fun g => g.tr == tr).map (·.m) := by rw [hts, List.filter_append, List.map_append]; simp [hc1]
      refine St.skip ?_
      refine St.inBlock ?_
      refine St.region rfl ?_
      refine Reg.q rfl rfl rfl (q_add rfl rfl (inc64 (by omega))) ?_
      refine Reg.q rfl rfl rfl (q_move rfl) ?_
      refine Reg.done ?_
      refine St.keep [20, 7, 14, 13, 5, 12, 11, 4, 0, 1] ?_
      show St _ _ _ [(13, _), (20, _), (7, _), (14, _), (13, _), (5, _), (12, _), (11, _), (4, _), (0, _), (1, _)] _ _ _
      replace hS := hS.drop
      refine St.conv (SubL.list (by rfl)) (Sub.rfl' _) (back ((j + 1, q, qc, n)) _ ?_ ?_)
      · exact ⟨by simp only []; rw [hpn]; exact hS, by simp only []; omega, by simp only []; rw [hpn]; exact hn⟩
      · simp only []; omega
  · simp at hc0
    obtain rfl : j = s.gots.length := by omega
    refine St.exit rfl ?_
    refine St.seq ?_
    refine St.region rfl ?_
    refine Reg.q rfl rfl rfl (q_move rfl) ?_
    refine Reg.q rfl rfl rfl (q_assign rfl) ?_
    refine Reg.done ?_
    refine St.keep [14, 13, 5, 12, 11, 4, 0, 1] ?_
    show St _ _ _ [(4, _), (14, _), (13, _), (5, _), (12, _), (11, _), (4, _), (0, _), (1, _)] _ _ _
    refine St.ret Try.func37 (.tmp rfl .nil) (Sub.rfl' _) ?_
    rw [List.take_length] at hS hn
    have hl := (hS.own 0 rfl).rd
    have hn1 : (partOf s tr).length = n := hn.symm
    exact ⟨q, qc, by rw [hn1]; rfl, hS.ro 1 rfl, by rw [hn1]; exact hl⟩

theorem jsafe_spec (σ ρ : Heap) (rs : List Asr) (es : List Ev) (p sp : Option Addr) (c sc : Nat) (hT : TraceIs ρ p es) (hes : es.length ≤ 100000) (bs : List Nat) (ss : List JSt) (hA : StaysIs ρ es p sp bs ss) (tb mb : Nat) (nm : Int) (f : Int → Bool) (al : List (Int × Value)) (hbad : BadIs al f) (hS : Stars (pt tb (.cells (traceC p es.length c sp ss.length sc mb nm) 70 (0, 0)) :: mapA encI mb al :: ro ρ :: rs) σ) (i j : Nat) (a b : JSt) (ba bb : Nat) (hba : bs[i]? = some ba) (ha : ss[i]? = some a) (hbb : bs[j]? = some bb) (hb : ss[j]? = some b) : Does Try.prog 38 #[.pointer (some ⟨tb, 0, none⟩), .pointer (some ⟨ba, 0, none⟩), .pointer (some ⟨bb, 0, none⟩)] σ (fun v τ => ∃ al', Stars (pt tb (.cells (traceC p es.length c sp ss.length sc mb nm) 70 (0, 0)) :: mapA encI mb al' :: ro ρ :: rs) τ ∧ BadIs al' (fun q => f q || (q == 6 && safeB a b a.gots.length))) := by
  refine Does.enter (n := 53) (l := [(0, _), (1, _), (2, _)]) Try.func38 rfl rfl (by simp) rfl ?_
  obtain ⟨gpa, gca, upa, uca, hsta, hrda⟩ := hA.at_ i ba a hba ha
  obtain ⟨gpb, gcb, upb, ucb, hstb, hrdb⟩ := hA.at_ j bb b hbb hb
  have hsma := List.mem_of_getElem? ha
  have hsmb := List.mem_of_getElem? hb
  have hwa := hA.wf a hsma
  have hla := hA.few.2 a hsma
  have hlb := hA.few.2 b hsmb
  refine St.seq ?_
  refine St.region rfl ?_
  refine Reg.q rfl rfl rfl (q_move rfl) ?_
  refine Reg.q rfl rfl rfl (q_nil rfl) ?_
  refine Reg.q rfl rfl rfl (q_fieldAddr fo_101_3 rfl rfl) ?_
  refine Reg.q rfl rfl rfl (q_load1 ac_99 rfl (hS.ro 2 rfl _ _ hsta) rfl) ?_
  refine Reg.q rfl rfl rfl (q_lenS rfl se_99 rfl) ?_
  refine Reg.q rfl rfl rfl (q_move rfl) ?_
  refine Reg.done ?_
  refine St.keep [0, 1, 2, 12, 13, 14] ?_
  show St _ _ _ [(14, _), (13, _), (12, _), (0, _), (1, _), (2, _)] _ _ _
  refine St.block ?_
  refine St.loopw (Y := Nat × List (Int × Value)) (fun y => [(14, .int .i64 (y.1 : Nat))]) [13, 12, 0, 1, 2] (fun y τ => Stars (pt tb (.cells (traceC p es.length c sp ss.length sc mb nm) 70 (0, 0)) :: mapA encI mb y.2 :: ro ρ :: rs) τ ∧ y.1 ≤ a.gots.length ∧ BadIs y.2 (fun q => f q || (q == 6 && safeB a b y.1))) (fun y => a.gots.length - y.1) ((0, al)) rfl (⟨hS, Nat.zero_le _, hbad.congr (fun q => by simp [safeB])⟩) ?_
  intro ⟨k, al⟩ τ ⟨hS, hk, hbad⟩ back
  simp only [] at hS hk hbad
  show St _ _ _ [(14, _), (13, _), (12, _), (0, _), (1, _), (2, _)] _ _ _
  refine St.seq ?_
  refine St.region rfl ?_
  refine Reg.q rfl rfl rfl (q_lt rfl rfl) ?_
  refine Reg.done ?_
  refine St.keep [14, 13, 12, 0, 1, 2, 15] ?_
  show St _ _ _ [(15, _), (14, _), (13, _), (12, _), (0, _), (1, _), (2, _)] _ _ _
  refine St.seq ?_
  refine St.cond rfl (fun hc0 => ?_) (fun hc0 => ?_)
  · simp at hc0
    obtain ⟨g, hg⟩ : ∃ g, a.gots[k]? = some g := ⟨_, List.getElem?_eq_getElem hc0⟩
    have hgm := List.mem_of_getElem? hg
    have hgok := hA.ok hT hsma hgm
    obtain ⟨bg, og, csg, Tg, fg, hgp, hbg, hlg, hrg⟩ := Rd.row Got.cells_len (by decide) hrda hg
    refine St.skip ?_
    refine St.seq ?_
    refine St.block ?_
    refine St.seq ?_
    refine St.region rfl ?_
    refine Reg.q rfl rfl rfl (q_indexAt se_99 rfl hgp rfl (by omega) rfl) ?_
    refine Reg.q rfl rfl rfl (q_loadA ac_103 rfl (hS.ro 2 rfl _ _ hbg) (row_partN hrg 0 8 (by decide) rfl rfl)) ?_
    refine Reg.x rfl rfl rfl (e_alloc zo_103 (fun b7 τ7 hb7 => ?_))
    replace hS : Stars (_ :: _ :: _ :: _ :: rs) _ := hS.fresh hb7
    refine Reg.no rfl rfl (e_store rfl rfl sz_103 rfl (hS.pt 0 rfl) (Nat.le_of_ble_eq_true rfl) rfl (storeN_row rfl) (fun τs2_3 hs2_3 hu2_3 => ?_))
    replace hS : Stars (_ :: _ :: _ :: _ :: rs) _ := (hS.top 0 rfl).ptU hu2_3 hs2_3
    refine Reg.done ?_
    refine St.keep [15, 14, 13, 12, 0, 1, 2, 7] ?_
    show St _ _ _ [(7, _), (15, _), (14, _), (13, _), (12, _), (0, _), (1, _), (2, _)] _ _ _
    replace hS : Stars (_ :: _ :: _ :: _ :: rs) _ := hS.top 3 rfl
    replace hS : Stars (_ :: _ :: _ :: _ :: rs) _ := hS.top 1 rfl
    obtain ⟨ρ7, hs7, h7, hS'⟩ := hS.roNew
    replace hS := hS'
    replace hsta := hs7 _ _ hsta
    replace hstb := hs7 _ _ hstb
    replace hS : Stars (_ :: _ :: _ :: rs) _ := hS.top 2 rfl
    replace hS : Stars (_ :: _ :: _ :: rs) _ := hS.top 2 rfl
    refine St.seq ?_
    refine St.region rfl ?_
    refine Reg.q rfl rfl rfl (q_move rfl) ?_
    refine Reg.q rfl rfl rfl (q_nil rfl) ?_
    refine Reg.q rfl rfl rfl (q_fieldAddr fo_101_2 rfl rfl) ?_
    refine Reg.q rfl rfl rfl (q_load1 ac_59 rfl (hS.ro 2 rfl _ _ hsta) rfl) ?_
    refine Reg.q rfl rfl rfl (q_assign rfl) ?_
    refine Reg.done ?_
    refine St.keep [7, 15, 14, 13, 12, 0, 1, 2, 8] ?_
    show St _ _ _ [(8, _), (7, _), (15, _), (14, _), (13, _), (12, _), (0, _), (1, _), (2, _)] _ _ _
    refine St.seq ?_
    refine St.seq ?_
    refine St.region rfl ?_
    refine Reg.q rfl rfl rfl (q_fieldAddr fo_103_2 rfl rfl) ?_
    refine Reg.q rfl rfl rfl (q_load1 ac_4 rfl (hS.ro 2 rfl _ _ h7) rfl) ?_
    refine Reg.done ?_
    refine St.keep [8, 7, 15, 14, 13, 12, 0, 1, 2, 23] ?_
    show St _ _ _ [(23, _), (8, _), (7, _), (15, _), (14, _), (13, _), (12, _), (0, _), (1, _), (2, _)] _ _ _
    refine St.cond rfl (fun hc1 => ?_) (fun hc1 => ?_)
    · obtain ⟨⟨jx, x⟩, hx⟩ : ∃ r, a.trans = some r := Option.isSome_iff_exists.1 (hwa.tr g hgm hc1)
      obtain ⟨lb, lo, cs, TT, fz, hp, hbx, hltx, hrx⟩ := hT.row (hwa.trans _ _ hx)
      replace hbx := hs7 _ _ hbx
      refine St.region rfl ?_
      refine Reg.q rfl rfl rfl (q_move rfl) ?_
      refine Reg.q rfl rfl rfl (q_nil rfl) ?_
      refine Reg.q rfl rfl rfl (q_fieldAddr fo_101_4 rfl rfl) ?_
      refine Reg.q rfl rfl rfl (QOp.eq (v' := .pointer (some ⟨lb, lo + jx * 19, none⟩)) (q_load1 ac_63 rfl (hS.ro 2 rfl _ _ hsta) rfl) (by show evp p a.trans = _; rw [hx, hp]; rfl)) ?_
      refine Reg.q rfl rfl rfl (q_nil rfl) ?_
      refine Reg.q rfl rfl rfl (q_fieldAddr fo_39_4 rfl rfl) ?_
      refine Reg.q rfl rfl rfl (q_load1 ac_28 rfl (hS.ro 2 rfl _ _ hbx) (row_cell hrx 6 rfl)) ?_
      refine Reg.q rfl rfl rfl (q_assign rfl) ?_
      refine Reg.done ?_
      refine St.keep [23, 8, 7, 15, 14, 13, 12, 0, 1, 2] ?_
      show St _ _ _ [(8, _), (23, _), (8, _), (7, _), (15, _), (14, _), (13, _), (12, _), (0, _), (1, _), (2, _)] _ _ _
      refine St.region rfl ?_
      refine Reg.q rfl rfl rfl (q_move rfl) ?_
      refine Reg.q rfl rfl rfl (q_fieldAddr fo_103_1 rfl rfl) ?_
      refine Reg.q rfl rfl rfl (q_fieldAddr fo_34_3 rfl rfl) ?_
      refine Reg.q rfl rfl rfl (q_load1 ac_3 rfl (hS.ro 2 rfl _ _ h7) rfl) ?_
      refine Reg.q rfl rfl rfl (q_ieq rfl rfl) ?_
      refine Reg.q rfl rfl rfl (q_move rfl) ?_
      refine Reg.joinv 43 (.bool (g.m.svc == 2 && has (if g.tr then transMem a.trans else a.mem) b.proc)) 7 [8, 23, 8, 7, 15, 14, 13, 12, 0, 1, 2, 31, 32, 33, 34, 35] (fun hk6_12 => ?_) ?_
      · skip
        refine Reg.split (d := 36) rfl (fun hg36 => ?_) (fun hg36 => ?_)
        · skip
          refine Reg.q rfl rfl rfl (q_move rfl) ?_
          refine Reg.q rfl rfl rfl (q_move rfl) ?_
          refine Reg.q rfl rfl rfl (q_nil rfl) ?_
          refine Reg.q rfl rfl rfl (q_fieldAddr fo_101_0 rfl rfl) ?_
          refine Reg.q rfl rfl rfl (q_load1 ac_3 rfl (hS.ro 2 rfl _ _ hstb) rfl) ?_
          refine Reg.x rfl rfl rfl (e_callF rfl rfl rfl ca_22 ((has_spec _ _ _).mono fun v42 τ42 h42 => ?_))
          obtain ⟨rfl, rfl⟩ := h42
          refine Reg.q rfl rfl rfl (q_pickT rfl rfl) ?_
          exact Reg.meet 8 [8, 23, 8, 7, 15, 14, 13, 12, 0, 1, 2, 31, 32, 33, 34, 35] hk6_12 rfl (by first | (simp [hc1, hx, transMem, hg36]; done) | (simp [hc1, hg36]; done)) rfl rfl
        · skip
          refine Reg.skip rfl rfl rfl ?_
          refine Reg.skip rfl rfl rfl ?_
          refine Reg.skip rfl rfl rfl ?_
          refine Reg.skip rfl rfl rfl ?_
          refine Reg.skip rfl rfl rfl ?_
          refine Reg.skip rfl rfl rfl ?_
          refine Reg.q rfl rfl rfl (q_pickF rfl rfl) ?_
          exact Reg.meet 8 [8, 23, 8, 7, 15, 14, 13, 12, 0, 1, 2, 31, 32, 33, 34, 35] hk6_12 rfl (by first | (simp [hc1, hx, transMem, hg36]; done) | (simp [hc1, hg36]; done)) rfl rfl
      · skip
        refine Reg.q rfl rfl rfl (q_move rfl) ?_
        refine Reg.joinv 50 (.bool (owesAt a b g)) 6 [8, 23, 8, 7, 15, 14, 13, 12, 0, 1, 2, 31, 32, 33, 34, 35, 43] (fun hk6_19 => ?_) ?_
        · skip
          refine Reg.split (d := 44) rfl (fun hg44 => ?_) (fun hg44 => ?_)
          · skip
            refine Reg.q rfl rfl rfl (q_move rfl) ?_
            refine Reg.q rfl rfl rfl (q_fieldAddr fo_103_1 rfl rfl) ?_
            refine Reg.q rfl rfl rfl (q_loadA ac_34 rfl (hS.ro 2 rfl _ _ h7) (rowN_row rfl)) ?_
            refine Reg.x rfl rfl rfl (e_callF rfl rfl rfl ca_49 ((jhas_spec _ bb _ _ b _ _ _ _ (hS.ro 2 rfl _ _ hstb) (Rd.up hrdb (hs7.trans (hS.ro 2 rfl))) hlb (fun g hg => (hA.ok hT hsmb hg).up (hs7.trans (hS.ro 2 rfl))) g.m (hgok.up (hs7.trans (hS.ro 2 rfl)))).mono fun v48 τ48 h48 => ?_))
            obtain ⟨rfl, rfl⟩ := h48
            refine Reg.q rfl rfl rfl (q_not rfl) ?_
            refine Reg.q rfl rfl rfl (q_pickT rfl rfl) ?_
            exact Reg.meet 7 [8, 23, 8, 7, 15, 14, 13, 12, 0, 1, 2, 31, 32, 33, 34, 35, 43] hk6_19 rfl (by simp only [owesAt, hg44, Bool.true_and, Bool.false_and]) rfl rfl
          · skip
            refine Reg.skip rfl rfl rfl ?_
            refine Reg.skip rfl rfl rfl ?_
            refine Reg.skip rfl rfl rfl ?_
            refine Reg.skip rfl rfl rfl ?_
            refine Reg.skip rfl rfl rfl ?_
            refine Reg.q rfl rfl rfl (q_pickF rfl rfl) ?_
            exact Reg.meet 7 [8, 23, 8, 7, 15, 14, 13, 12, 0, 1, 2, 31, 32, 33, 34, 35, 43] hk6_19 rfl (by simp only [owesAt, hg44, Bool.true_and, Bool.false_and]) rfl rfl
        · skip
          refine Reg.x rfl rfl rfl (e_callF rfl rfl rfl ca_35 ((jbreaks_spec _ _ _ _ _ _ _ _ hS _ _).mono fun v51 τ51 h51 => ?_))
          replace hS := h51
          replace hbad := hbad.brk 6 (owesAt a b g)
          refine Reg.done ?_
          refine St.keep [8, 23, 8, 7, 15, 14, 13, 12, 0, 1, 2] ?_
          show St _ _ _ [(8, _), (23, _), (8, _), (7, _), (15, _), (14, _), (13, _), (12, _), (0, _), (1, _), (2, _)] _ _ _
          refine St.inBlock ?_
          refine St.region rfl ?_
          refine Reg.q rfl rfl rfl (q_add rfl rfl (inc64 (by omega))) ?_
          refine Reg.q rfl rfl rfl (q_move rfl) ?_
          refine Reg.done ?_
          refine St.keep [8, 23, 8, 7, 15, 14, 13, 12, 0, 1, 2] ?_
          show St _ _ _ [(14, _), (8, _), (23, _), (8, _), (7, _), (15, _), (14, _), (13, _), (12, _), (0, _), (1, _), (2, _)] _ _ _
          replace hS : Stars (_ :: _ :: _ :: rs) _ := hS.top 2 rfl
          replace hS : Stars (ro ρ :: _) _ := hS.imp fun h hx => hs7.trans hx
          replace hS : Stars (_ :: _ :: _ :: rs) _ := hS.top 2 rfl
          replace hS : Stars (_ :: _ :: _ :: rs) _ := hS.top 2 rfl
          refine St.conv (SubL.list (by rfl)) (Sub.rfl' _) (back ((k + 1, if owesAt a b g then put al 6 (.bool true) else al)) _ ?_ ?_)
          · exact ⟨hS, by simp only []; omega, hbad.congr fun q => by simp only []; rw [safeB_succ hg]; cases (q == 6) <;> simp [Bool.or_assoc]⟩
          · simp only []; omega
    · skip
      refine St.skip ?_
      refine St.region rfl ?_
      refine Reg.q rfl rfl rfl (q_move rfl) ?_
      refine Reg.q rfl rfl rfl (q_fieldAddr fo_103_1 rfl rfl) ?_
      refine Reg.q rfl rfl rfl (q_fieldAddr fo_34_3 rfl rfl) ?_
      refine Reg.q rfl rfl rfl (q_load1 ac_3 rfl (hS.ro 2 rfl _ _ h7) rfl) ?_
      refine Reg.q rfl rfl rfl (q_ieq rfl rfl) ?_
      refine Reg.q rfl rfl rfl (q_move rfl) ?_
      refine Reg.joinv 43 (.bool (g.m.svc == 2 && has (if g.tr then transMem a.trans else a.mem) b.proc)) 7 [23, 8, 7, 15, 14, 13, 12, 0, 1, 2, 31, 32, 33, 34, 35] (fun hk6_12 => ?_) ?_
      · skip
        refine Reg.split (d := 36) rfl (fun hg36 => ?_) (fun hg36 => ?_)
        · skip
          refine Reg.q rfl rfl rfl (q_move rfl) ?_
          refine Reg.q rfl rfl rfl (q_move rfl) ?_
          refine Reg.q rfl rfl rfl (q_nil rfl) ?_
          refine Reg.q rfl rfl rfl (q_fieldAddr fo_101_0 rfl rfl) ?_
          refine Reg.q rfl rfl rfl (q_load1 ac_3 rfl (hS.ro 2 rfl _ _ hstb) rfl) ?_
          refine Reg.x rfl rfl rfl (e_callF rfl rfl rfl ca_22 ((has_spec _ _ _).mono fun v42 τ42 h42 => ?_))
          obtain ⟨rfl, rfl⟩ := h42
          refine Reg.q rfl rfl rfl (q_pickT rfl rfl) ?_
          exact Reg.meet 8 [23, 8, 7, 15, 14, 13, 12, 0, 1, 2, 31, 32, 33, 34, 35] hk6_12 rfl (by first | (simp [hc1, hx, transMem, hg36]; done) | (simp [hc1, hg36]; done)) rfl rfl
        · skip
          refine Reg.skip rfl rfl rfl ?_
          refine Reg.skip rfl rfl rfl ?_
          refine Reg.skip rfl rfl rfl ?_
          refine Reg.skip rfl rfl rfl ?_
          refine Reg.skip rfl rfl rfl ?_
          refine Reg.skip rfl rfl rfl ?_
          refine Reg.q rfl rfl rfl (q_pickF rfl rfl) ?_
          exact Reg.meet 8 [23, 8, 7, 15, 14, 13, 12, 0, 1, 2, 31, 32, 33, 34, 35] hk6_12 rfl (by first | (simp [hc1, hx, transMem, hg36]; done) | (simp [hc1, hg36]; done)) rfl rfl
      · skip
        refine Reg.q rfl rfl rfl (q_move rfl) ?_
        refine Reg.joinv 50 (.bool (owesAt a b g)) 6 [23, 8, 7, 15, 14, 13, 12, 0, 1, 2, 31, 32, 33, 34, 35, 43] (fun hk6_19 => ?_) ?_
        · skip
          refine Reg.split (d := 44) rfl (fun hg44 => ?_) (fun hg44 => ?_)
          · skip
            refine Reg.q rfl rfl rfl (q_move rfl) ?_
            refine Reg.q rfl rfl rfl (q_fieldAddr fo_103_1 rfl rfl) ?_
            refine Reg.q rfl rfl rfl (q_loadA ac_34 rfl (hS.ro 2 rfl _ _ h7) (rowN_row rfl)) ?_
            refine Reg.x rfl rfl rfl (e_callF rfl rfl rfl ca_49 ((jhas_spec _ bb _ _ b _ _ _ _ (hS.ro 2 rfl _ _ hstb) (Rd.up hrdb (hs7.trans (hS.ro 2 rfl))) hlb (fun g hg => (hA.ok hT hsmb hg).up (hs7.trans (hS.ro 2 rfl))) g.m (hgok.up (hs7.trans (hS.ro 2 rfl)))).mono fun v48 τ48 h48 => ?_))
            obtain ⟨rfl, rfl⟩ := h48
            refine Reg.q rfl rfl rfl (q_not rfl) ?_
            refine Reg.q rfl rfl rfl (q_pickT rfl rfl) ?_
            exact Reg.meet 7 [23, 8, 7, 15, 14, 13, 12, 0, 1, 2, 31, 32, 33, 34, 35, 43] hk6_19 rfl (by simp only [owesAt, hg44, Bool.true_and, Bool.false_and]) rfl rfl
          · skip
            refine Reg.skip rfl rfl rfl ?_
            refine Reg.skip rfl rfl rfl ?_
            refine Reg.skip rfl rfl rfl ?_
            refine Reg.skip rfl rfl rfl ?_
            refine Reg.skip rfl rfl rfl ?_
            refine Reg.q rfl rfl rfl (q_pickF rfl rfl) ?_
            exact Reg.meet 7 [23, 8, 7, 15, 14, 13, 12, 0, 1, 2, 31, 32, 33, 34, 35, 43] hk6_19 rfl (by simp only [owesAt, hg44, Bool.true_and, Bool.false_and]) rfl rfl
        · skip
          refine Reg.x rfl rfl rfl (e_callF rfl rfl rfl ca_35 ((jbreaks_spec _ _ _ _ _ _ _ _ hS _ _).mono fun v51 τ51 h51 => ?_))
          replace hS := h51
          replace hbad := hbad.brk 6 (owesAt a b g)
          refine Reg.done ?_
          refine St.keep [23, 8, 7, 15, 14, 13, 12, 0, 1, 2] ?_
          show St _ _ _ [(23, _), (8, _), (7, _), (15, _), (14, _), (13, _), (12, _), (0, _), (1, _), (2, _)] _ _ _
          refine St.inBlock ?_
          refine St.region rfl ?_
          refine Reg.q rfl rfl rfl (q_add rfl rfl (inc64 (by omega))) ?_
          refine Reg.q rfl rfl rfl (q_move rfl) ?_
          refine Reg.done ?_
          refine St.keep [23, 8, 7, 15, 14, 13, 12, 0, 1, 2] ?_
          show St _ _ _ [(14, _), (23, _), (8, _), (7, _), (15, _), (14, _), (13, _), (12, _), (0, _), (1, _), (2, _)] _ _ _
          replace hS : Stars (_ :: _ :: _ :: rs) _ := hS.top 2 rfl
          replace hS : Stars (ro ρ :: _) _ := hS.imp fun h hx => hs7.trans hx
          replace hS : Stars (_ :: _ :: _ :: rs) _ := hS.top 2 rfl
          replace hS : Stars (_ :: _ :: _ :: rs) _ := hS.top 2 rfl
          refine St.conv (SubL.list (by rfl)) (Sub.rfl' _) (back ((k + 1, if owesAt a b g then put al 6 (.bool true) else al)) _ ?_ ?_)
          · exact ⟨hS, by simp only []; omega, hbad.congr fun q => by simp only []; rw [safeB_succ hg]; cases (q == 6) <;> simp [Bool.or_assoc]⟩
          · simp only []; omega
  · simp at hc0
    obtain rfl : k = a.gots.length := by omega
    refine St.exit rfl ?_
    refine St.fin Try.func38 .nil (Sub.rfl' _) ?_
    exact ⟨_, hS, hbad⟩
end Go.Proofs.Ytdgdbnkhmdncdaa
