/- The monitor: how its stays lie in memory; the least of its functions. -/
import Derived.Test.YtdgdbnkhmdncdaaH4
import Derived.Test.YtdgdbnkhmdncdaaMd
set_option linter.unusedSectionVars false
set_option linter.unusedSimpArgs false
set_option linter.unusedVariables false
namespace Go.Proofs.Ytdgdbnkhmdncdaa
open Go.Gw Go.Cs
variable [Env]
set_option maxHeartbeats 1000000
namespace FM1
theorem ac_3 : aggCells Try.prog 3 = some none := by kernel_rfl
theorem ac_34 : aggCells Try.prog 34 = some (some 6) := by kernel_rfl
theorem ac_60 : aggCells Try.prog 60 = some none := by kernel_rfl
theorem ae_61 : arrElem Try.prog 61 = some (2, 1) := by kernel_rfl
theorem ca_17 : callable Try.prog 17 = true := by kernel_rfl
theorem ca_22 : callable Try.prog 22 = true := by kernel_rfl
theorem ca_26 : callable Try.prog 26 = true := by kernel_rfl
theorem ca_27 : callable Try.prog 27 = true := by kernel_rfl
theorem ca_45 : callable Try.prog 45 = true := by kernel_rfl
theorem ca_46 : callable Try.prog 46 = true := by kernel_rfl
theorem ca_47 : callable Try.prog 47 = true := by kernel_rfl
theorem fo_34_3 : fieldOff Try.prog 34 3 = some 3 := by kernel_rfl
theorem fo_53_3 : fieldOff Try.prog 53 3 = some 6 := by kernel_rfl
theorem fo_65_0 : fieldOff Try.prog 65 0 = some 0 := by kernel_rfl
theorem fo_65_3 : fieldOff Try.prog 65 3 = some 4 := by kernel_rfl
theorem pl_49 : places Try.prog 49 = some #[(0, 1), (1, 1), (2, 1), (3, 1)] := by kernel_rfl
theorem pl_53 : places Try.prog 53 = some #[(0, 4), (4, 1), (5, 1), (6, 1), (7, 1), (8, 1), (9, 1)] := by kernel_rfl
theorem se_60 : sliceElem Try.prog 60 = some 6 := by kernel_rfl
theorem so_120 : sliceOf Try.prog 120 = some (60, 1) := by kernel_rfl
theorem sz_3 : szOf Try.prog 3 = some 1 := by kernel_rfl
theorem sz_34 : szOf Try.prog 34 = some 6 := by kernel_rfl
theorem zo_34 : zeroOf Try.prog 34 = some #[.int .i64 0, .int .u32 0, .int .u64 0, .int .i64 0, .slice none 0 0, .string ⟨#[]⟩] := by kernel_rfl
theorem zo_49 : zeroOf Try.prog 49 = some #[.map none, .map none, .map none, .slice none 0 0] := by kernel_rfl
theorem zo_53 : zeroOf Try.prog 53 = some #[.map none, .map none, .map none, .slice none 0 0, .map none, .map none, .int .i64 0, .int .i64 0, .int .i64 0, .int .i64 0] := by kernel_rfl
theorem zo_60 : zeroOf Try.prog 60 = some #[.slice none 0 0] := by kernel_rfl
theorem zr_60_2 : zrow #[.slice none 0 0] (2 * 1) = #[.slice none 0 0, .slice none 0 0] := by kernel_rfl
end FM1
open FM1

/-- A stay in memory. -/
def mstA (b : Nat) (s : MSt) : Asr := fun h => ∃ x : Option Addr × Nat × Option Addr × Nat × Nat × List (Int × Value), CntM x.2.2.2.2.2 s.all ∧ Stars [pt b (.cells (mstC s x.1 x.2.1 x.2.2.1 x.2.2.2.1 x.2.2.2.2.1) 65 (0, 0)), ownA 34 6 x.1 s.p0.length x.2.1 (s.p0.flatMap Msg.cells), ownA 34 6 x.2.2.1 s.p1.length x.2.2.2.1 (s.p1.flatMap Msg.cells), mapA encI x.2.2.2.2.1 x.2.2.2.2.2] h
theorem mono_mst (b : Nat) (s : MSt) : Mono (mstA b s) := fun σ τ hs h => by
  obtain ⟨x, hc, h⟩ := h
  exact ⟨x, hc, h.sub hs⟩
def mstsA (bs : List Nat) (ss : List MSt) : Asr := Stars (List.zipWith mstA bs ss)
def mholeA (bs : List Nat) (ss : List MSt) (i : Nat) : Asr := Stars ((List.zipWith mstA bs ss).set i emp)
theorem mzip_at {bs : List Nat} {ss : List MSt} {i b : Nat} {s : MSt} (hb : bs[i]? = some b) (hs : ss[i]? = some s) : (List.zipWith mstA bs ss)[i]? = some (mstA b s) := by
  rw [List.getElem?_zipWith, hb, hs]
theorem msts_at {rs : List Asr} {σ : Heap} {bs : List Nat} {ss : List MSt} {k i b : Nat} {s : MSt} (h : Stars rs σ) (hk : rs[k]? = some (mstsA bs ss)) (hb : bs[i]? = some b) (hs : ss[i]? = some s) :
    ∃ a0 c0 a1 c1 cb cl, σ b = some (.cells (mstC s a0 c0 a1 c1 cb) 65 (0, 0)) ∧ Rd σ 6 a0 s.p0.length (s.p0.flatMap Msg.cells) ∧ Rd σ 6 a1 s.p1.length (s.p1.flatMap Msg.cells) ∧ MapIs σ encI cb cl ∧ CntM cl s.all := by
  have h0 : Stars (List.zipWith mstA bs ss) σ := h.get k hk (Stars.mono _)
  obtain ⟨x, hc, h1⟩ := h0.get i (mzip_at hb hs) (mono_mst b s)
  exact ⟨x.1, x.2.1, x.2.2.1, x.2.2.2.1, x.2.2.2.2.1, x.2.2.2.2.2, h1.pt 0 rfl, (h1.own 1 rfl).rd, (h1.own 2 rfl).rd, h1.map 3 rfl, hc⟩
theorem msts_open {rs : List Asr} {σ : Heap} {bs : List Nat} {ss : List MSt} {i b : Nat} {s : MSt} (h : Stars (mstsA bs ss :: rs) σ) (hb : bs[i]? = some b) (hs : ss[i]? = some s) :
    ∃ a0 c0 a1 c1 cb cl, CntM cl s.all ∧ Stars (pt b (.cells (mstC s a0 c0 a1 c1 cb) 65 (0, 0)) :: ownA 34 6 a0 s.p0.length c0 (s.p0.flatMap Msg.cells) :: ownA 34 6 a1 s.p1.length c1 (s.p1.flatMap Msg.cells) :: mapA encI cb cl :: mholeA bs ss i :: rs) σ := by
  obtain ⟨x, h⟩ := (Stars.open_ h (mzip_at hb hs)).ex
  obtain ⟨hc, h⟩ := h.pure_
  exact ⟨x.1, x.2.1, x.2.2.1, x.2.2.2.1, x.2.2.2.2.1, x.2.2.2.2.2, hc, h.flat⟩
theorem msts_close {rs : List Asr} {σ : Heap} {bs : List Nat} {ss : List MSt} {i b : Nat} {s : MSt} {a0 a1 : Option Addr} {c0 c1 cb : Nat} {cl : List (Int × Value)} (hc : CntM cl s.all) (h : Stars (pt b (.cells (mstC s a0 c0 a1 c1 cb) 65 (0, 0)) :: ownA 34 6 a0 s.p0.length c0 (s.p0.flatMap Msg.cells) :: ownA 34 6 a1 s.p1.length c1 (s.p1.flatMap Msg.cells) :: mapA encI cb cl :: mholeA bs ss i :: rs) σ)
    (hb : bs[i]? = some b) (hi : i < ss.length) : Stars (mstsA bs (ss.set i s) :: rs) σ := by
  have h1 := h.fold 4
  have h2 : Stars (mstA b s :: Stars ((List.zipWith mstA bs ss).set i emp) :: rs) σ := h1.imp fun ρ hx => ⟨(a0, c0, a1, c1, cb, cl), hc, hx⟩
  have hlt : i < bs.length := (List.getElem?_eq_some_iff.1 hb).1
  have h3 := Stars.close_ h2 (by rw [List.length_zipWith]; omega)
  refine h3.imp fun ρ hx => ?_
  have e : (List.zipWith mstA bs ss).set i (mstA b s) = List.zipWith mstA bs (ss.set i s) := by
    apply List.ext_getElem?
    intro j
    rw [List.getElem?_set, List.getElem?_zipWith, List.getElem?_zipWith, List.getElem?_set]
    by_cases hij : i = j
    · subst hij
      have : i < min bs.length ss.length := by omega
      simp [hb, hi, this]
    · simp [hij]
  rw [e] at hx; exact hx
theorem msts_push {rs : List Asr} {σ : Heap} {bs : List Nat} {ss : List MSt} {b : Nat} {s : MSt} {a0 a1 : Option Addr} {c0 c1 cb : Nat} {cl : List (Int × Value)} (hc : CntM cl s.all) (h : Stars (pt b (.cells (mstC s a0 c0 a1 c1 cb) 65 (0, 0)) :: ownA 34 6 a0 s.p0.length c0 (s.p0.flatMap Msg.cells) :: ownA 34 6 a1 s.p1.length c1 (s.p1.flatMap Msg.cells) :: mapA encI cb cl :: mstsA bs ss :: rs) σ)
    (hl : bs.length = ss.length) : Stars (mstsA (bs ++ [b]) (ss ++ [s]) :: rs) σ := by
  have h1 := h.fold 4
  have h2 : Stars (mstA b s :: Stars (List.zipWith mstA bs ss) :: rs) σ := h1.imp fun ρ hx => ⟨(a0, c0, a1, c1, cb, cl), hc, hx⟩
  have h3 := h2.snoc
  refine h3.imp fun ρ hx => ?_
  rw [show List.zipWith mstA bs ss ++ [mstA b s] = List.zipWith mstA (bs ++ [b]) (ss ++ [s]) by rw [List.zipWith_append hl]; rfl] at hx
  exact hx

theorem mbreaks_spec (σ : Heap) (rs : List Asr) (tb sb eb mb sn sc lb nb : Nat) (sp : Option Addr) (len at_ rule : Int) (br : Int) (hS : Stars (pt tb (.cells (monC sb eb mb sp sn sc lb nb br len at_ rule) 53 (0, 0)) :: rs) σ) (r : Int) (is : Bool) : Does Try.prog 17 #[.pointer (some ⟨tb, 0, none⟩), .int .i64 r, .bool is] σ (fun v τ => Stars (pt tb (.cells (monC sb eb mb sp sn sc lb nb (brkI br r is) len at_ rule) 53 (0, 0)) :: rs) τ) := by
  refine Does.enter (n := 26) (l := [(0, _), (1, _), (2, _)]) Try.func17 rfl rfl (by simp) rfl ?_
  refine St.seq ?_
  refine St.region rfl ?_
  refine Reg.q rfl rfl rfl (q_move rfl) ?_
  refine Reg.q rfl rfl rfl (q_move rfl) ?_
  refine Reg.joinv 21 (.bool (is && (br == 0 || decide (r < br)))) 14 [0, 1, 2, 6] (fun hk0_15 => ?_) ?_
  · skip
    refine Reg.split (d := 7) rfl (fun hg7 => ?_) (fun hg7 => ?_)
    · skip
      refine Reg.q rfl rfl rfl (q_move rfl) ?_
      refine Reg.q rfl rfl rfl (q_nil rfl) ?_
      refine Reg.q rfl rfl rfl (q_fieldAddr fo_53_3 rfl rfl) ?_
      refine Reg.q rfl rfl rfl (q_load1 ac_3 rfl (hS.pt 0 rfl) rfl) ?_
      refine Reg.q rfl rfl rfl (q_ieq rfl rfl) ?_
      refine Reg.q rfl rfl rfl (q_move rfl) ?_
      refine Reg.split (d := 13) rfl (fun hg13 => ?_) (fun hg13 => ?_)
      · skip
        refine Reg.skip rfl rfl rfl ?_
        refine Reg.skip rfl rfl rfl ?_
        refine Reg.skip rfl rfl rfl ?_
        refine Reg.skip rfl rfl rfl ?_
        refine Reg.skip rfl rfl rfl ?_
        refine Reg.skip rfl rfl rfl ?_
        refine Reg.q rfl rfl rfl (q_pickT rfl rfl) ?_
        refine Reg.q rfl rfl rfl (q_pickT rfl rfl) ?_
        exact Reg.meet 16 [0, 1, 2, 6] hk0_15 rfl (by simp only [hg7, hg13, Bool.true_and, Bool.false_and, Bool.true_or, Bool.false_or]) rfl rfl
      · skip
        refine Reg.q rfl rfl rfl (q_move rfl) ?_
        refine Reg.q rfl rfl rfl (q_move rfl) ?_
        refine Reg.q rfl rfl rfl (q_nil rfl) ?_
        refine Reg.q rfl rfl rfl (q_fieldAddr fo_53_3 rfl rfl) ?_
        refine Reg.q rfl rfl rfl (q_load1 ac_3 rfl (hS.pt 0 rfl) rfl) ?_
        refine Reg.q rfl rfl rfl (q_lt rfl rfl) ?_
        refine Reg.q rfl rfl rfl (q_pickF rfl rfl) ?_
        refine Reg.q rfl rfl rfl (q_pickT rfl rfl) ?_
        exact Reg.meet 16 [0, 1, 2, 6] hk0_15 rfl (by simp only [hg7, hg13, Bool.true_and, Bool.false_and, Bool.true_or, Bool.false_or]) rfl rfl
    · skip
      refine Reg.skip rfl rfl rfl ?_
      refine Reg.skip rfl rfl rfl ?_
      refine Reg.skip rfl rfl rfl ?_
      refine Reg.skip rfl rfl rfl ?_
      refine Reg.skip rfl rfl rfl ?_
      refine Reg.skip rfl rfl rfl ?_
      refine Reg.skip rfl rfl rfl ?_
      refine Reg.skip rfl rfl rfl ?_
      refine Reg.skip rfl rfl rfl ?_
      refine Reg.skip rfl rfl rfl ?_
      refine Reg.skip rfl rfl rfl ?_
      refine Reg.skip rfl rfl rfl ?_
      refine Reg.skip rfl rfl rfl ?_
      refine Reg.q rfl rfl rfl (q_pickF rfl rfl) ?_
      exact Reg.meet 15 [0, 1, 2, 6] hk0_15 rfl (by simp only [hg7, Bool.true_and, Bool.false_and, Bool.true_or, Bool.false_or]) rfl rfl
  · skip
    refine Reg.done ?_
    refine St.keep [0, 1, 2, 21] ?_
    show St _ _ _ [(21, _), (0, _), (1, _), (2, _)] _ _ _
    refine St.cond rfl (fun hc0 => ?_) (fun hc0 => ?_)
    · skip
      refine St.region rfl ?_
      refine Reg.q rfl rfl rfl (q_move rfl) ?_
      refine Reg.q rfl rfl rfl (q_move rfl) ?_
      refine Reg.q rfl rfl rfl (q_nil rfl) ?_
      refine Reg.q rfl rfl rfl (q_fieldAddr fo_53_3 rfl rfl) ?_
      refine Reg.no rfl rfl (e_store rfl rfl sz_3 rfl (hS.pt 0 rfl) (Nat.le_of_ble_eq_true rfl) rfl (storeN_row rfl) (fun τs1_4 hs1_4 hu1_4 => ?_))
      replace hS : Stars (_ :: rs) _ := (hS.top 0 rfl).ptU hu1_4 hs1_4
      refine Reg.done ?_
      refine St.keep [21, 0, 1, 2] ?_
      show St _ _ _ [(21, _), (0, _), (1, _), (2, _)] _ _ _
      refine St.fin Try.func17 .nil (Sub.rfl' _) ?_
      have e : brkI br r is = r := by unfold brkI; rw [hc0]; rfl
      rw [e]; exact hS
    · skip
      refine St.skip ?_
      refine St.fin Try.func17 .nil (Sub.rfl' _) ?_
      have e : brkI br r is = br := by unfold brkI; rw [hc0]; rfl
      rw [e]; exact hS

theorem mnew_spec (σ : Heap) (rs : List Asr) (hS : Stars rs σ) : Does Try.prog 6 #[] σ (fun v τ => ∃ tb sb eb mb lb nb, v = .pointer (some ⟨tb, 0, none⟩) ∧ Stars (pt tb (.cells (monC sb eb mb none 0 0 lb nb 0 0 0 0) 53 (0, 0)) :: rowsA 34 6 encSent Msg.cells sb (fun _ => []) :: mapA encWho eb [] :: mapA encConf mb [] :: mapA encI lb [] :: mapA encI nb [] :: rs) τ) := by
  refine Does.enter (n := 9) (l := []) Try.func6 rfl rfl (by simp) rfl ?_
  refine St.seq ?_
  refine St.region rfl ?_
  refine Reg.q rfl rfl rfl (q_assign rfl) ?_
  refine Reg.done ?_
  refine St.keep [0] ?_
  show St _ _ _ [(0, _)] _ _ _
  refine St.seq ?_
  refine St.region rfl ?_
  refine Reg.x rfl rfl rfl (e_makeMap (fun b1 τ1 hb1 => ?_))
  replace hS := rows_new (T := 34) (m := 6) (enc := encSent) (f := Msg.cells) hS hb1
  refine Reg.x rfl rfl rfl (e_makeMap (fun b2 τ2 hb2 => ?_))
  replace hS : Stars (_ :: _ :: rs) _ := hS.mapNew (enc := encWho) hb2
  refine Reg.x rfl rfl rfl (e_makeMap (fun b3 τ3 hb3 => ?_))
  replace hS : Stars (_ :: _ :: _ :: rs) _ := hS.mapNew (enc := encConf) hb3
  refine Reg.q rfl rfl rfl (q_build rfl zo_49 pl_49 (fillN_fill rfl)) ?_
  refine Reg.x rfl rfl rfl (e_makeMap (fun b5 τ5 hb5 => ?_))
  replace hS : Stars (_ :: _ :: _ :: _ :: rs) _ := hS.mapNew (enc := encI) hb5
  refine Reg.x rfl rfl rfl (e_makeMap (fun b6 τ6 hb6 => ?_))
  replace hS : Stars (_ :: _ :: _ :: _ :: _ :: rs) _ := hS.mapNew (enc := encI) hb6
  refine Reg.q rfl rfl rfl (q_build rfl zo_53 pl_53 (fillN_fill rfl)) ?_
  refine Reg.x rfl rfl rfl (e_box rfl (cellsN_eq rfl) (fun b8 τ8 hb8 => ?_))
  replace hS : Stars (_ :: _ :: _ :: _ :: _ :: _ :: rs) _ := hS.fresh hb8
  refine Reg.q rfl rfl rfl (q_assign rfl) ?_
  refine Reg.done ?_
  refine St.keep [0] ?_
  show St _ _ _ [(0, _), (0, _)] _ _ _
  refine St.ret Try.func6 (.tmp rfl .nil) (Sub.rfl' _) ?_
  replace hS : Stars (_ :: _ :: _ :: _ :: _ :: _ :: rs) _ := hS.top 1 rfl
  replace hS : Stars (_ :: _ :: _ :: _ :: _ :: _ :: rs) _ := hS.top 2 rfl
  replace hS : Stars (_ :: _ :: _ :: _ :: _ :: _ :: rs) _ := hS.top 3 rfl
  replace hS : Stars (_ :: _ :: _ :: _ :: _ :: _ :: rs) _ := hS.top 4 rfl
  replace hS : Stars (_ :: _ :: _ :: _ :: _ :: _ :: rs) _ := hS.top 5 rfl
  replace hS : Stars (_ :: _ :: _ :: _ :: _ :: _ :: rs) _ := hS.top 5 rfl
  exact ⟨b8, b1, b2, b3, b5, b6, rfl, hS⟩

theorem mall_spec (σ : Heap) (b : Nat) (s : MSt) (a0 : Option Addr) (c0 : Nat) (a1 : Option Addr) (c1 cb : Nat) (hst : σ b = some (.cells (mstC s a0 c0 a1 c1 cb) 65 (0, 0))) (hr0 : Rd σ 6 a0 s.p0.length (s.p0.flatMap Msg.cells)) (hr1 : Rd σ 6 a1 s.p1.length (s.p1.flatMap Msg.cells)) (hfew : s.p0.length + s.p1.length ≤ 100000) : Does Try.prog 27 #[.pointer (some ⟨b, 0, none⟩)] σ (fun v τ => ∃ q c, v = .slice q s.all.length c ∧ Sub σ τ ∧ Rd τ 6 q s.all.length (s.all.flatMap Msg.cells)) := by
  refine Does.enter (n := 15) (l := [(0, _)]) Try.func27 rfl rfl (by simp) rfl ?_
  have hS : Stars (ro σ :: []) σ := Stars.ro0 σ
  refine St.seq ?_
  refine St.region rfl ?_
  refine Reg.q rfl rfl rfl (q_assign rfl) ?_
  refine Reg.done ?_
  refine St.keep [0, 2] ?_
  show St _ _ _ [(2, _), (0, _)] _ _ _
  refine St.seq ?_
  refine St.draw0 [10, 11] [(0, .w), (1, .w), (2, .w), (3, .w), (4, .r), (5, .w), (6, .w), (7, .w), (8, .w), (9, .r), (10, .x), (11, .x), (12, .w)] mixed (by kernel_rfl) rfl ?_
  refine Dr.w rfl rfl rfl rfl (q_move rfl) ?_
  refine Dr.w rfl rfl rfl rfl (q_nil rfl) ?_
  refine Dr.w rfl rfl rfl rfl (q_fieldAddr fo_65_3 rfl rfl) ?_
  refine Dr.w rfl rfl rfl rfl (q_indexAddrA ae_61 rfl rfl (by decide) rfl) ?_
  refine Dr.r rfl rfl rfl rfl (Sub.rfl' _) (q_load1 ac_60 rfl (hS.ro 0 rfl _ _ hst) rfl) ?_
  refine Dr.w rfl rfl rfl rfl (q_move rfl) ?_
  refine Dr.w rfl rfl rfl rfl (q_nil rfl) ?_
  refine Dr.w rfl rfl rfl rfl (q_fieldAddr fo_65_3 rfl rfl) ?_
  refine Dr.w rfl rfl rfl rfl (q_indexAddrA ae_61 rfl rfl (by decide) rfl) ?_
  refine Dr.r rfl rfl rfl rfl (Sub.rfl' _) (q_load1 ac_60 rfl (hS.ro 0 rfl _ _ hst) rfl) ?_
  refine Dr.x rfl rfl rfl rfl (e_buildSlice so_120 zo_60 zr_60_2 rfl rfl rfl (fillN_fill rfl) (fun b13 τ13 hb13 => ⟨.inl rfl, ?_⟩))
  replace hS : Stars (_ :: _ :: []) _ := hS.fresh hb13
  refine Dr.x rfl rfl rfl rfl (e_callF rfl rfl rfl ca_45 ((concat_spec _ _ _ _ _ _ _ _ s.p0 s.p1 (hS.pt 0 rfl) (Rd.up hr0 (hS.ro 1 rfl)) (Rd.up hr1 (hS.ro 1 rfl)) (by omega)).mono fun v14 τ14 h14 => ?_))
  obtain ⟨q, qc, rfl, hsub, hrd⟩ := h14
  replace hS := hS.sub hsub
  refine ⟨.inl rfl, ?_⟩
  refine Dr.w rfl rfl rfl rfl (q_assign rfl) ?_
  refine Dr.done ?_
  refine St.keep [2, 0] ?_
  show St _ _ _ [(2, _), (2, _), (0, _)] _ _ _
  refine St.ret Try.func27 (.tmp rfl .nil) (Sub.rfl' _) ?_
  exact ⟨q, qc, rfl, hS.ro 1 rfl, hrd⟩

theorem mowx_spec (σ : Heap) (bm : Nat) (m y : Msg) (hm : σ bm = some (.cells #[.int .i64 m.frm, .int .u32 m.seq, .int .u64 m.stamp, .int .i64 m.svc, .slice m.dp m.deps.length m.dc, .string m.pay] 34 (0, 0))) (hyk : y.ok σ) (hmk : m.ok σ) : Does Try.prog 47 #[y.v, .pointer (some ⟨bm, 0, none⟩)] σ (fun v τ => v = .bool (same m y) ∧ σ = τ) := by
  refine Does.enter (n := 7) (l := [(0, _), (1, _)]) Try.func47 rfl rfl (by simp) rfl ?_
  have hsub : Sub σ σ := Sub.rfl' σ
  refine St.seq ?_
  refine St.region rfl ?_
  refine Reg.x rfl rfl rfl (e_box rfl (cellsN_eq rfl) (fun b2 τ2 hb2 => ?_))
  have h2 := hb2.at_
  replace hsub := hsub.trans hb2.sub
  refine Reg.q rfl rfl rfl (q_assign rfl) ?_
  refine Reg.done ?_
  refine St.keep [0, 1, 2, 3] ?_
  show St _ _ _ [(3, _), (2, _), (0, _), (1, _)] _ _ _
  refine St.seq ?_
  refine St.region rfl ?_
  refine Reg.q rfl rfl rfl (q_loadA ac_34 rfl (hsub _ _ hm) (rowN_row rfl)) ?_
  refine Reg.q rfl rfl rfl (q_loadA ac_34 rfl h2 (rowN_row rfl)) ?_
  refine Reg.x rfl rfl rfl (e_callF rfl rfl rfl ca_26 ((msame_spec _ m y (hmk.up hsub) (hyk.up hsub)).mono fun v6 τ6 h6 => ?_))
  obtain ⟨rfl, rfl⟩ := h6
  refine Reg.q rfl rfl rfl (q_assign rfl) ?_
  refine Reg.done ?_
  refine St.keep [3, 2, 0, 1] ?_
  show St _ _ _ [(3, _), (3, _), (2, _), (0, _), (1, _)] _ _ _
  refine St.ret Try.func47 (.tmp rfl .nil) hsub ?_
  exact ⟨rfl, rfl⟩

theorem mowes_spec (σ ρ : Heap) (rs : List Asr) (tb sb eb mb sn sc lb nb : Nat) (sp : Option Addr) (len at_ rule : Int) (br : Int) (f : Int → Bool) (hbr : br = least f) (hS : Stars (pt tb (.cells (monC sb eb mb sp sn sc lb nb br len at_ rule) 53 (0, 0)) :: ro ρ :: rs) σ) (b : Nat) (s : MSt) (a0 : Option Addr) (c0 : Nat) (a1 : Option Addr) (c1 cb : Nat) (hst : ρ b = some (.cells (mstC s a0 c0 a1 c1 cb) 65 (0, 0))) (hr0 : Rd ρ 6 a0 s.p0.length (s.p0.flatMap Msg.cells)) (hr1 : Rd ρ 6 a1 s.p1.length (s.p1.flatMap Msg.cells)) (hfew : s.p0.length + s.p1.length ≤ 100000) (hok0 : ∀ m ∈ s.p0, m.ok ρ) (hok1 : ∀ m ∈ s.p1, m.ok ρ) (vo : Value) (l : List Msg) (lp : Option Addr) (lc : Nat) (hl : Rd ρ 6 lp l.length (l.flatMap Msg.cells)) (hlok : ∀ m ∈ l, m.ok ρ) (hlf : l.length ≤ 100000) (mem : Int) : Does Try.prog 30 #[.pointer (some ⟨tb, 0, none⟩), .pointer (some ⟨b, 0, none⟩), vo, .slice lp l.length lc, .int .u64 mem] σ (fun v τ => ∃ br', Stars (pt tb (.cells (monC sb eb mb sp sn sc lb nb br' len at_ rule) 53 (0, 0)) :: ro ρ :: rs) τ ∧ br' = least (fun q => f q || (q == 6 && l.any (owesM mem s)))) := by
  refine Does.enter (n := 37) (l := [(0, _), (1, _), (2, _), (3, _), (4, _)]) Try.func30 rfl rfl (by simp) rfl ?_
  have hall : ∀ m ∈ s.all, m.ok ρ := fun m hm => (List.mem_append.1 hm).elim (hok0 m) (hok1 m)
  have hlen : s.all.length = s.p0.length + s.p1.length := List.length_append
  refine St.seq ?_
  refine St.region rfl ?_
  refine Reg.q rfl rfl rfl (q_move rfl) ?_
  refine Reg.q rfl rfl rfl (q_lenS rfl se_60 rfl) ?_
  refine Reg.q rfl rfl rfl (q_move rfl) ?_
  refine Reg.done ?_
  refine St.keep [0, 1, 2, 3, 4, 12, 13, 14] ?_
  show St _ _ _ [(14, _), (13, _), (12, _), (0, _), (1, _), (2, _), (3, _), (4, _)] _ _ _
  refine St.block ?_
  refine St.loopw (Y := Nat × Int) (fun y => [(14, .int .i64 (y.1 : Nat))]) [13, 12, 0, 1, 2, 3, 4] (fun y τ => Stars (pt tb (.cells (monC sb eb mb sp sn sc lb nb y.2 len at_ rule) 53 (0, 0)) :: ro ρ :: rs) τ ∧ y.1 ≤ l.length ∧ y.2 = least (fun q => f q || (q == 6 && (l.take y.1).any (owesM mem s)))) (fun y => l.length - y.1) ((0, br)) rfl (⟨hS, Nat.zero_le _, hbr.trans (least_congr fun q => by simp)⟩) ?_
  intro ⟨j, br⟩ τ ⟨hS, hj, hbr⟩ back
  simp only [] at hS hj hbr
  show St _ _ _ [(14, _), (13, _), (12, _), (0, _), (1, _), (2, _), (3, _), (4, _)] _ _ _
  refine St.seq ?_
  refine St.region rfl ?_
  refine Reg.q rfl rfl rfl (q_lt rfl rfl) ?_
  refine Reg.done ?_
  refine St.keep [14, 13, 12, 0, 1, 2, 3, 4, 15] ?_
  show St _ _ _ [(15, _), (14, _), (13, _), (12, _), (0, _), (1, _), (2, _), (3, _), (4, _)] _ _ _
  refine St.seq ?_
  refine St.cond rfl (fun hc0 => ?_) (fun hc0 => ?_)
  · simp at hc0
    obtain ⟨m, hm⟩ : ∃ m, l[j]? = some m := ⟨_, List.getElem?_eq_getElem hc0⟩
    have hmok := hlok m (List.mem_of_getElem? hm)
    have hat := any_take hm (owesM mem s)
    obtain ⟨bm, om, csm, Tm, fm, hmp, hbm, hlm, hrm⟩ := Rd.row Msg.cells_len (by decide) hl hm
    refine St.skip ?_
    refine St.seq ?_
    refine St.block ?_
    refine St.seq ?_
    refine St.region rfl ?_
    refine Reg.q rfl rfl rfl (q_indexAt se_60 rfl hmp rfl (by omega) rfl) ?_
    refine Reg.q rfl rfl rfl (q_loadA ac_34 rfl (hS.ro 1 rfl _ _ hbm) (row_partN hrm 0 6 (by decide) rfl rfl)) ?_
    refine Reg.x rfl rfl rfl (e_alloc zo_34 (fun b11 τ11 hb11 => ?_))
    replace hS : Stars (_ :: _ :: _ :: rs) _ := hS.fresh hb11
    refine Reg.no rfl rfl (e_store rfl rfl sz_34 rfl (hS.pt 0 rfl) (Nat.le_of_ble_eq_true rfl) rfl (storeN_row rfl) (fun τs2_3 hs2_3 hu2_3 => ?_))
    replace hS : Stars (_ :: _ :: _ :: rs) _ := (hS.top 0 rfl).ptU hu2_3 hs2_3
    refine Reg.done ?_
    refine St.keep [15, 14, 13, 12, 0, 1, 2, 3, 4, 11] ?_
    show St _ _ _ [(11, _), (15, _), (14, _), (13, _), (12, _), (0, _), (1, _), (2, _), (3, _), (4, _)] _ _ _
    replace hS : Stars (_ :: _ :: _ :: rs) _ := hS.top 2 rfl
    replace hS : Stars (_ :: _ :: _ :: rs) _ := hS.top 1 rfl
    obtain ⟨ρ11, hs11, h11, hS'⟩ := hS.roNew
    replace hS := hS'
    replace hst := hs11 _ _ hst
    replace hS : Stars (_ :: _ :: rs) _ := hS.top 1 rfl
    refine St.seq ?_
    refine St.region rfl ?_
    refine Reg.q rfl rfl rfl (q_fieldAddr fo_34_3 rfl rfl) ?_
    refine Reg.q rfl rfl rfl (q_load1 ac_3 rfl (hS.ro 1 rfl _ _ h11) rfl) ?_
    refine Reg.q rfl rfl rfl (q_ieq rfl rfl) ?_
    refine Reg.q rfl rfl rfl (q_move rfl) ?_
    refine Reg.joinv 28 (.bool (m.svc == 2 && has mem s.proc)) 7 [11, 15, 14, 13, 12, 0, 1, 2, 3, 4, 18, 19, 20] (fun hk3_10 => ?_) ?_
    · skip
      refine Reg.split (d := 21) rfl (fun hg21 => ?_) (fun hg21 => ?_)
      · skip
        refine Reg.q rfl rfl rfl (q_move rfl) ?_
        refine Reg.q rfl rfl rfl (q_move rfl) ?_
        refine Reg.q rfl rfl rfl (q_nil rfl) ?_
        refine Reg.q rfl rfl rfl (q_fieldAddr fo_65_0 rfl rfl) ?_
        refine Reg.q rfl rfl rfl (q_load1 ac_3 rfl (hS.ro 1 rfl _ _ hst) rfl) ?_
        refine Reg.x rfl rfl rfl (e_callF rfl rfl rfl ca_22 ((has_spec _ _ _).mono fun v27 τ27 h27 => ?_))
        obtain ⟨rfl, rfl⟩ := h27
        refine Reg.q rfl rfl rfl (q_pickT rfl rfl) ?_
        exact Reg.meet 8 [11, 15, 14, 13, 12, 0, 1, 2, 3, 4, 18, 19, 20] hk3_10 rfl (by simp only [hg21, Bool.true_and, Bool.false_and]) rfl rfl
      · skip
        refine Reg.skip rfl rfl rfl ?_
        refine Reg.skip rfl rfl rfl ?_
        refine Reg.skip rfl rfl rfl ?_
        refine Reg.skip rfl rfl rfl ?_
        refine Reg.skip rfl rfl rfl ?_
        refine Reg.skip rfl rfl rfl ?_
        refine Reg.q rfl rfl rfl (q_pickF rfl rfl) ?_
        exact Reg.meet 8 [11, 15, 14, 13, 12, 0, 1, 2, 3, 4, 18, 19, 20] hk3_10 rfl (by simp only [hg21, Bool.true_and, Bool.false_and]) rfl rfl
    · skip
      refine Reg.done ?_
      refine St.keep [11, 15, 14, 13, 12, 0, 1, 2, 3, 4, 28] ?_
      show St _ _ _ [(28, _), (11, _), (15, _), (14, _), (13, _), (12, _), (0, _), (1, _), (2, _), (3, _), (4, _)] _ _ _
      refine St.cond rfl (fun hc1 => ?_) (fun hc1 => ?_)
      · skip
        refine St.region rfl ?_
        refine Reg.q rfl rfl rfl (q_move rfl) ?_
        refine Reg.q rfl rfl rfl (q_move rfl) ?_
        refine Reg.x rfl rfl rfl (e_callF rfl rfl rfl ca_27 ((mall_spec _ b s _ _ _ _ _ (hS.ro 1 rfl _ _ hst) (Rd.up hr0 (hs11.trans (hS.ro 1 rfl))) (Rd.up hr1 (hs11.trans (hS.ro 1 rfl))) hfew).mono fun v31 τ31 h31 => ?_))
        obtain ⟨q1, c1, rfl, hsub1, hrd1⟩ := h31
        replace hS := hS.sub hsub1
        refine Reg.q rfl rfl rfl (q_makeFunc (us := #[]) (vs := #[.pointer (some ⟨b11, 0, none⟩)]) (by simp) (by simp only [List.map_toArray]; rfl)) ?_
        refine Reg.x rfl rfl rfl (e_callF rfl rfl rfl ca_46 ((cof_m _ _ _ _ _ hrd1 (by omega) 47 #[] #[.pointer (some ⟨b11, 0, none⟩)] (fun y => same m y) ca_47 (fun y hy => mowx_spec _ b11 m y (hS.ro 1 rfl _ _ h11) ((hall y hy).up (hs11.trans (hS.ro 1 rfl))) (hmok.up (hs11.trans (hS.ro 1 rfl))))).mono fun v33 τ33 h33 => ?_))
        obtain ⟨rfl, rfl⟩ := h33
        refine Reg.q rfl rfl rfl (q_not rfl) ?_
        refine Reg.x rfl rfl rfl (e_callF rfl rfl rfl ca_17 ((mbreaks_spec _ _ _ _ _ _ _ _ _ _ _ _ _ _ _ hS _ _).mono fun v35 τ35 h35 => ?_))
        replace hS := h35
        have hbr2 := least_brk (!(s.all.any fun y => same m y)) hbr (show (1 : Int) ≤ 6 by decide) (by decide)
        refine Reg.done ?_
        refine St.keep [28, 11, 15, 14, 13, 12, 0, 1, 2, 3, 4] ?_
        show St _ _ _ [(28, _), (11, _), (15, _), (14, _), (13, _), (12, _), (0, _), (1, _), (2, _), (3, _), (4, _)] _ _ _
        refine St.inBlock ?_
        refine St.region rfl ?_
        refine Reg.q rfl rfl rfl (q_add rfl rfl (inc64 (by omega))) ?_
        refine Reg.q rfl rfl rfl (q_move rfl) ?_
        refine Reg.done ?_
        refine St.keep [28, 11, 15, 14, 13, 12, 0, 1, 2, 3, 4] ?_
        show St _ _ _ [(14, _), (28, _), (11, _), (15, _), (14, _), (13, _), (12, _), (0, _), (1, _), (2, _), (3, _), (4, _)] _ _ _
        replace hS : Stars (_ :: _ :: rs) _ := hS.top 1 rfl
        replace hS : Stars (ro ρ :: _) _ := hS.imp fun h hx => hs11.trans hx
        replace hS : Stars (_ :: _ :: rs) _ := hS.top 1 rfl
        refine St.conv (SubL.list (by rfl)) (Sub.rfl' _) (back ((j + 1, brkI br 6 (!(s.all.any fun y => same m y)))) _ ?_ ?_)
        · exact ⟨hS, by simp only []; omega, hbr2.trans (least_congr fun q => by simp only []; rw [hat, owesM, hc1]; cases (q == 6) <;> simp [Bool.or_assoc])⟩
        · simp only []; omega
      · skip
        refine St.skip ?_
        refine St.inBlock ?_
        refine St.region rfl ?_
        refine Reg.q rfl rfl rfl (q_add rfl rfl (inc64 (by omega))) ?_
        refine Reg.q rfl rfl rfl (q_move rfl) ?_
        refine Reg.done ?_
        refine St.keep [28, 11, 15, 14, 13, 12, 0, 1, 2, 3, 4] ?_
        show St _ _ _ [(14, _), (28, _), (11, _), (15, _), (14, _), (13, _), (12, _), (0, _), (1, _), (2, _), (3, _), (4, _)] _ _ _
        replace hS : Stars (_ :: _ :: rs) _ := hS.top 1 rfl
        replace hS : Stars (ro ρ :: _) _ := hS.imp fun h hx => hs11.trans hx
        replace hS : Stars (_ :: _ :: rs) _ := hS.top 1 rfl
        refine St.conv (SubL.list (by rfl)) (Sub.rfl' _) (back ((j + 1, br)) _ ?_ ?_)
        · exact ⟨hS, by simp only []; omega, hbr.trans (least_congr fun q => by simp only []; rw [hat, owesM, hc1]; simp)⟩
        · simp only []; omega
  · simp at hc0
    obtain rfl : j = l.length := by omega
    rw [List.take_length] at hbr
    refine St.exit rfl ?_
    refine St.fin Try.func30 .nil (Sub.rfl' _) ?_
    exact ⟨_, hS, hbr⟩
end Go.Proofs.Ytdgdbnkhmdncdaa
