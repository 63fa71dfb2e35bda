/- The monitor: an event comes. -/
import Derived.Test.YtdgdbnkhmdncdaaM3
import Derived.Test.YtdgdbnkhmdncdaaM4
import Derived.Test.YtdgdbnkhmdncdaaM5
import Derived.Test.YtdgdbnkhmdncdaaMm
set_option linter.unusedSectionVars false
set_option linter.unusedSimpArgs false
set_option linter.unusedVariables false
namespace Go.Proofs.Ytdgdbnkhmdncdaa
open Go.Gw Go.Cs
variable [Env]
set_option maxHeartbeats 1000000
namespace FM6
theorem ac_3 : aggCells Try.prog 3 = some none := by kernel_rfl
theorem ac_32 : aggCells Try.prog 32 = some none := by kernel_rfl
theorem ac_39 : aggCells Try.prog 39 = some (some 19) := by kernel_rfl
theorem ac_50 : aggCells Try.prog 50 = some none := by kernel_rfl
theorem ac_51 : aggCells Try.prog 51 = some none := by kernel_rfl
theorem ac_56 : aggCells Try.prog 56 = some none := by kernel_rfl
theorem ac_63 : aggCells Try.prog 63 = some none := by kernel_rfl
theorem ca_12 : callable Try.prog 12 = true := by kernel_rfl
theorem ca_13 : callable Try.prog 13 = true := by kernel_rfl
theorem ca_14 : callable Try.prog 14 = true := by kernel_rfl
theorem ca_15 : callable Try.prog 15 = true := by kernel_rfl
theorem ca_16 : callable Try.prog 16 = true := by kernel_rfl
theorem ca_17 : callable Try.prog 17 = true := by kernel_rfl
theorem fo_34_4 : fieldOff Try.prog 34 4 = some 4 := by kernel_rfl
theorem fo_39_0 : fieldOff Try.prog 39 0 = some 0 := by kernel_rfl
theorem fo_39_1 : fieldOff Try.prog 39 1 = some 1 := by kernel_rfl
theorem fo_39_5 : fieldOff Try.prog 39 5 = some 7 := by kernel_rfl
theorem fo_53_1 : fieldOff Try.prog 53 1 = some 4 := by kernel_rfl
theorem fo_53_2 : fieldOff Try.prog 53 2 = some 5 := by kernel_rfl
theorem fo_53_3 : fieldOff Try.prog 53 3 = some 6 := by kernel_rfl
theorem fo_53_4 : fieldOff Try.prog 53 4 = some 7 := by kernel_rfl
theorem fo_53_5 : fieldOff Try.prog 53 5 = some 8 := by kernel_rfl
theorem fo_53_6 : fieldOff Try.prog 53 6 = some 9 := by kernel_rfl
theorem fo_65_5 : fieldOff Try.prog 65 5 = some 7 := by kernel_rfl
theorem sz_3 : szOf Try.prog 3 = some 1 := by kernel_rfl
theorem sz_32 : szOf Try.prog 32 = some 1 := by kernel_rfl
theorem sz_63 : szOf Try.prog 63 = some 1 := by kernel_rfl
end FM6
open FM6

/-- A monitor in memory. -/
def MonMid (ρ τ : Heap) (rs : List Asr) (tb sb eb mb lb nb : Nat) (br : Int) (M : MTr) (N : Nat) (len at_ rule : Int) : Prop := ∃ (sc : Nat) (sp : Option Addr) (bs : List Nat) (sl : List (Who × Value)) (ml : List (Conf × Value)) (lal nal : List (Int × Value)), Stars (pt tb (.cells (monC sb eb mb sp M.stays.length sc lb nb br len at_ rule) 53 (0, 0)) :: rowsA 34 6 encSent Msg.cells sb M.sends :: mapA encWho eb sl :: mapA encConf mb ml :: mapA encI lb lal :: mapA encI nb nal :: ownA 56 1 sp M.stays.length sc (bs.flatMap ptrC) :: mstsA bs M.stays :: ro ρ :: rs) τ ∧ br = least M.bad ∧ MIs ρ 39 bs M sl ml lal nal N
def MonIs (ρ τ : Heap) (rs : List Asr) (tb sb eb mb lb nb : Nat) (M : MTr) (N : Nat) : Prop := MonMid ρ τ rs tb sb eb mb lb nb (least M.bad) M N M.len M.at_ M.rule
theorem MonIs.t {ρ τ : Heap} {rs : List Asr} {tb sb eb mb lb nb : Nat} {M : MTr} {N : Nat} (h : MonIs ρ τ rs tb sb eb mb lb nb M N) : ∃ sc sp, τ tb = some (.cells (monC sb eb mb sp M.stays.length sc lb nb (least M.bad) M.len M.at_ M.rule) 53 (0, 0)) ∧ Sub ρ τ := by
  obtain ⟨sc, sp, bs, sl, ml, lal, nal, hS, _, _⟩ := h
  exact ⟨sc, sp, hS.pt 0 rfl, hS.ro 8 rfl⟩
theorem MonIs.sub {ρ τ τ' : Heap} {rs : List Asr} {tb sb eb mb lb nb : Nat} {M : MTr} {N : Nat} (h : MonIs ρ τ rs tb sb eb mb lb nb M N) (hs : Sub τ τ') : MonIs ρ τ' rs tb sb eb mb lb nb M N := by
  obtain ⟨sc, sp, bs, sl, ml, lal, nal, hS, h1, h2⟩ := h
  exact ⟨sc, sp, bs, sl, ml, lal, nal, hS.sub hs, h1, h2⟩

theorem mbroken_spec (σ ρ : Heap) (rs : List Asr) (tb sb eb mb lb nb : Nat) (M : MTr) (N : Nat) (h : MonIs ρ σ rs tb sb eb mb lb nb M N) : Does Try.prog 9 #[.pointer (some ⟨tb, 0, none⟩)] σ (fun v τ => v = .int .i64 (least M.bad) ∧ σ = τ) := by
  refine Does.enter (n := 7) (l := [(0, _)]) Try.func9 rfl rfl (by simp) rfl ?_
  obtain ⟨sc, sp, hb, _⟩ := h.t
  refine St.seq ?_
  refine St.region rfl ?_
  refine Reg.q rfl rfl rfl (q_assign rfl) ?_
  refine Reg.done ?_
  refine St.keep [0, 2] ?_
  show St _ _ _ [(2, _), (0, _)] _ _ _
  refine St.seq ?_
  refine St.region rfl ?_
  refine Reg.q rfl rfl rfl (q_move rfl) ?_
  refine Reg.q rfl rfl rfl (q_nil rfl) ?_
  refine Reg.q rfl rfl rfl (q_fieldAddr fo_53_3 rfl rfl) ?_
  refine Reg.q rfl rfl rfl (q_load1 ac_3 rfl hb rfl) ?_
  refine Reg.q rfl rfl rfl (q_assign rfl) ?_
  refine Reg.done ?_
  refine St.keep [2, 0] ?_
  show St _ _ _ [(2, _), (2, _), (0, _)] _ _ _
  refine St.ret Try.func9 (.tmp rfl .nil) (Sub.rfl' _) ?_
  exact ⟨rfl, rfl⟩

theorem mlen_spec (σ ρ : Heap) (rs : List Asr) (tb sb eb mb lb nb : Nat) (M : MTr) (N : Nat) (h : MonIs ρ σ rs tb sb eb mb lb nb M N) : Does Try.prog 11 #[.pointer (some ⟨tb, 0, none⟩)] σ (fun v τ => v = .int .i64 M.len ∧ σ = τ) := by
  refine Does.enter (n := 7) (l := [(0, _)]) Try.func11 rfl rfl (by simp) rfl ?_
  obtain ⟨sc, sp, hb, _⟩ := h.t
  refine St.seq ?_
  refine St.region rfl ?_
  refine Reg.q rfl rfl rfl (q_assign rfl) ?_
  refine Reg.done ?_
  refine St.keep [0, 2] ?_
  show St _ _ _ [(2, _), (0, _)] _ _ _
  refine St.seq ?_
  refine St.region rfl ?_
  refine Reg.q rfl rfl rfl (q_move rfl) ?_
  refine Reg.q rfl rfl rfl (q_nil rfl) ?_
  refine Reg.q rfl rfl rfl (q_fieldAddr fo_53_4 rfl rfl) ?_
  refine Reg.q rfl rfl rfl (q_load1 ac_3 rfl hb rfl) ?_
  refine Reg.q rfl rfl rfl (q_assign rfl) ?_
  refine Reg.done ?_
  refine St.keep [2, 0] ?_
  show St _ _ _ [(2, _), (2, _), (0, _)] _ _ _
  refine St.ret Try.func11 (.tmp rfl .nil) (Sub.rfl' _) ?_
  exact ⟨rfl, rfl⟩

theorem mfirst_spec (σ ρ : Heap) (rs : List Asr) (tb sb eb mb lb nb : Nat) (M : MTr) (N : Nat) (h : MonIs ρ σ rs tb sb eb mb lb nb M N) : Does Try.prog 8 #[.pointer (some ⟨tb, 0, none⟩)] σ (fun v τ => v = .tuple #[.int .i64 M.at_, .int .i64 M.rule] ∧ σ = τ) := by
  refine Does.enter (n := 12) (l := [(0, _)]) Try.func8 rfl rfl (by simp) rfl ?_
  obtain ⟨sc, sp, hb, _⟩ := h.t
  refine St.seq ?_
  refine St.region rfl ?_
  refine Reg.q rfl rfl rfl (q_assign rfl) ?_
  refine Reg.q rfl rfl rfl (q_assign rfl) ?_
  refine Reg.done ?_
  refine St.keep [0, 2, 3] ?_
  show St _ _ _ [(3, _), (2, _), (0, _)] _ _ _
  refine St.seq ?_
  refine St.draw0 [] [(0, .w), (1, .w), (2, .w), (3, .r), (4, .w), (5, .w), (6, .w), (7, .r), (8, .w), (9, .w)] mixed (by kernel_rfl) rfl ?_
  refine Dr.w rfl rfl rfl rfl (q_move rfl) ?_
  refine Dr.w rfl rfl rfl rfl (q_nil rfl) ?_
  refine Dr.w rfl rfl rfl rfl (q_fieldAddr fo_53_5 rfl rfl) ?_
  refine Dr.r rfl rfl rfl rfl (Sub.rfl' _) (q_load1 ac_3 rfl hb rfl) ?_
  refine Dr.w rfl rfl rfl rfl (q_move rfl) ?_
  refine Dr.w rfl rfl rfl rfl (q_nil rfl) ?_
  refine Dr.w rfl rfl rfl rfl (q_fieldAddr fo_53_6 rfl rfl) ?_
  refine Dr.r rfl rfl rfl rfl (Sub.rfl' _) (q_load1 ac_3 rfl hb rfl) ?_
  refine Dr.w rfl rfl rfl rfl (q_assign rfl) ?_
  refine Dr.w rfl rfl rfl rfl (q_assign rfl) ?_
  refine Dr.done ?_
  refine St.keep [3, 2, 0] ?_
  show St _ _ _ [(3, _), (2, _), (3, _), (2, _), (0, _)] _ _ _
  refine St.ret Try.func8 (.tmp rfl (.tmp rfl .nil)) (Sub.rfl' _) ?_
  exact ⟨rfl, rfl⟩

theorem madd_spec (σ ρ : Heap) (rs : List Asr) (tb sb eb mb lb nb : Nat) (M : MTr) (N : Nat) (hMon : MonIs ρ σ rs tb sb eb mb lb nb M N) (hN : N < 100000) (hl : 0 ≤ M.len ∧ M.len < 100000) (e : Ev) (hok : e.ok ρ) : Does Try.prog 7 #[.pointer (some ⟨tb, 0, none⟩), e.v] σ (fun v τ => ∃ ρ' n q k, Sub ρ ρ' ∧ (e.at_ q k).ok ρ' ∧ v = .int .i64 (least (M.add n (e.at_ q k)).bad) ∧ MonIs ρ' τ rs tb sb eb mb lb nb (M.add n (e.at_ q k)) (N + 1)) := by
  refine Does.enter (n := 101) (l := [(0, _), (1, _)]) Try.func7 rfl rfl (by simp) rfl ?_
  obtain ⟨sc, sp, bs, sl, ml, lal, nal, hS, _, hM⟩ := hMon
  obtain ⟨_, _, _, _, hnd, _⟩ := hS.map 5 rfl
  refine St.seq ?_
  refine St.region rfl ?_
  refine Reg.x rfl rfl rfl (e_box rfl (cellsN_eq rfl) (fun b3 τ3 hb3 => ?_))
  replace hS : Stars (_ :: _ :: _ :: _ :: _ :: _ :: _ :: _ :: _ :: _ :: rs) _ := hS.fresh hb3
  refine Reg.q rfl rfl rfl (q_assign rfl) ?_
  refine Reg.done ?_
  refine St.keep [0, 1, 3, 4] ?_
  show St _ _ _ [(4, _), (3, _), (0, _), (1, _)] _ _ _
  refine St.seq ?_
  refine St.region rfl ?_
  refine Reg.q rfl rfl rfl (q_fieldAddr fo_39_5 rfl rfl) ?_
  refine Reg.q rfl rfl rfl (q_fieldAddr fo_34_4 rfl rfl) ?_
  refine Reg.q rfl rfl rfl (q_load1 ac_32 rfl (hS.pt 0 rfl) rfl) ?_
  replace hS : Stars (_ :: _ :: _ :: _ :: _ :: _ :: _ :: _ :: _ :: _ :: rs) _ := hS.top 9 rfl
  refine Reg.x rfl rfl rfl (e_callF rfl rfl rfl ca_12 ((clone_spec _ ρ _ hS _ _ _ e.m.deps hok.1.1 hok.1.2).mono fun v9 τ9 h9 => ?_))
  obtain ⟨ρ2, q, qc, rfl, hs2, hrd2, hS⟩ := h9
  refine Reg.q rfl rfl rfl (q_fieldAddr fo_39_5 rfl rfl) ?_
  refine Reg.q rfl rfl rfl (q_fieldAddr fo_34_4 rfl rfl) ?_
  refine Reg.no rfl rfl (e_store rfl rfl sz_32 rfl (hS.pt 1 rfl) (Nat.le_of_ble_eq_true rfl) rfl (storeN_row rfl) (fun τs1_6 hs1_6 hu1_6 => ?_))
  replace hS : Stars (_ :: _ :: _ :: _ :: _ :: _ :: _ :: _ :: _ :: _ :: rs) _ := (hS.top 1 rfl).ptU hu1_6 hs1_6
  refine Reg.done ?_
  refine St.keep [4, 3, 0, 1] ?_
  show St _ _ _ [(4, _), (3, _), (0, _), (1, _)] _ _ _
  replace hS : Stars (pt b3 (.cells (e.at_ q qc).arr 39 (0, 0)) :: _) _ := hS
  obtain ⟨ρ3, hs23, h3, hS'⟩ := hS.roNew
  replace hS := hS'
  replace hS : Stars (_ :: _ :: _ :: _ :: _ :: _ :: _ :: _ :: _ :: rs) _ := hS.top 8 rfl
  replace hS : Stars (_ :: _ :: _ :: _ :: _ :: _ :: _ :: _ :: _ :: rs) _ := hS.top 8 rfl
  replace hS : Stars (_ :: _ :: _ :: _ :: _ :: _ :: _ :: _ :: _ :: rs) _ := hS.top 8 rfl
  replace hS : Stars (_ :: _ :: _ :: _ :: _ :: _ :: _ :: _ :: _ :: rs) _ := hS.top 8 rfl
  replace hS : Stars (_ :: _ :: _ :: _ :: _ :: _ :: _ :: _ :: _ :: rs) _ := hS.top 8 rfl
  replace hS : Stars (_ :: _ :: _ :: _ :: _ :: _ :: _ :: _ :: _ :: rs) _ := hS.top 8 rfl
  replace hS : Stars (_ :: _ :: _ :: _ :: _ :: _ :: _ :: _ :: _ :: rs) _ := hS.top 8 rfl
  replace hS : Stars (_ :: _ :: _ :: _ :: _ :: _ :: _ :: _ :: _ :: rs) _ := hS.top 8 rfl
  have hs3 := hs2.trans hs23
  have hok1 : (e.at_ q qc).ok ρ3 := ⟨⟨Go.Cs.Rd.up hrd2 hs23, hok.1.2⟩, (hok.up hs3).2⟩
  have hM0 : MIs ρ3 39 bs M.tick sl ml lal nal N := (hM.up hs3 (Nat.le_refl _)).tick
  refine St.seq ?_
  refine St.region rfl ?_
  refine Reg.q rfl rfl rfl (q_move rfl) ?_
  refine Reg.q rfl rfl rfl (q_nil rfl) ?_
  refine Reg.q rfl rfl rfl (q_fieldAddr fo_53_4 rfl rfl) ?_
  refine Reg.q rfl rfl rfl (q_load1 ac_3 rfl (hS.pt 0 rfl) rfl) ?_
  refine Reg.q rfl rfl rfl (q_add rfl rfl (wrap64 (by omega))) ?_
  refine Reg.q rfl rfl rfl (q_nil rfl) ?_
  refine Reg.q rfl rfl rfl (q_fieldAddr fo_53_4 rfl rfl) ?_
  refine Reg.no rfl rfl (e_store rfl rfl sz_3 rfl (hS.pt 0 rfl) (Nat.le_of_ble_eq_true rfl) rfl (storeN_row rfl) (fun τs2_7 hs2_7 hu2_7 => ?_))
  replace hS : Stars (_ :: _ :: _ :: _ :: _ :: _ :: _ :: _ :: _ :: rs) _ := (hS.top 0 rfl).ptU hu2_7 hs2_7
  refine Reg.done ?_
  refine St.keep [4, 3, 0, 1] ?_
  show St _ _ _ [(4, _), (3, _), (0, _), (1, _)] _ _ _
  refine St.seq ?_
  refine St.seq ?_
  refine St.region rfl ?_
  refine Reg.q rfl rfl rfl (q_fieldAddr fo_39_0 rfl rfl) ?_
  refine Reg.q rfl rfl rfl (q_load1 ac_3 rfl (hS.ro 8 rfl _ _ h3) rfl) ?_
  refine Reg.done ?_
  refine St.keep [4, 3, 0, 1, 20] ?_
  show St _ _ _ [(20, _), (4, _), (3, _), (0, _), (1, _)] _ _ _
  refine St.block ?_
  refine St.joinh [0, 4] (fun τ => ∃ br, MonMid ρ3 τ rs tb sb eb mb lb nb br (M.tick.main b3 (e.at_ q qc)) (N + 1) (M.len + 1) M.at_ M.rule) (fun hkj => ?_) ?_
  · skip
    refine St.seq ?_
    refine St.seq ?_
    refine St.region rfl ?_
    refine Reg.q rfl rfl rfl (q_ieq rfl rfl) ?_
    refine Reg.q rfl rfl rfl (q_assign rfl) ?_
    refine Reg.done ?_
    refine St.keep [20, 4, 3, 0, 1, 21] ?_
    show St _ _ _ [(21, _), (20, _), (4, _), (3, _), (0, _), (1, _)] _ _ _
    refine St.cond rfl (fun hc0 => ?_) (fun hc0 => ?_)
    · skip
      refine St.skip ?_
      refine St.cond rfl (fun hc1 => ?_) (fun hc1 => ?_)
      · skip
        refine St.seq ?_
        refine St.draw0 [9] [(0, .w), (1, .w), (2, .w), (3, .r), (4, .w), (5, .r), (6, .w), (7, .r), (8, .w), (9, .x)] mixed (by kernel_rfl) rfl ?_
        refine Dr.w rfl rfl rfl rfl (q_move rfl) ?_
        refine Dr.w rfl rfl rfl rfl (q_nil rfl) ?_
        refine Dr.w rfl rfl rfl rfl (q_fieldAddr fo_53_1 rfl rfl) ?_
        refine Dr.r rfl rfl rfl rfl (Sub.rfl' _) (q_load1 ac_50 rfl (hS.pt 0 rfl) rfl) ?_
        refine Dr.w rfl rfl rfl rfl (q_fieldAddr fo_39_1 rfl rfl) ?_
        refine Dr.r rfl rfl rfl rfl (Sub.rfl' _) (q_load1 ac_3 rfl (hS.ro 8 rfl _ _ h3) rfl) ?_
        refine Dr.w rfl rfl rfl rfl (q_fieldAddr fo_39_0 rfl rfl) ?_
        refine Dr.r rfl rfl rfl rfl (Sub.rfl' _) (q_load1 ac_3 rfl (hS.ro 8 rfl _ _ h3) rfl) ?_
        refine Dr.w rfl rfl rfl rfl (q_ieq rfl rfl) ?_
        refine Dr.no rfl rfl rfl (e_mapUpdate Try.underlying50 key_3 rfl rfl rfl (hS.map 4 rfl) (fun τu6_9 hmu6_9 huu6_9 => ⟨.inl rfl, ?_⟩))
        replace hS : Stars (_ :: _ :: _ :: _ :: _ :: _ :: _ :: _ :: _ :: rs) _ := (hS.top 4 rfl).mapU huu6_9 hmu6_9
        refine Dr.done ?_
        refine St.keep [21, 20, 4, 3, 0, 1] ?_
        show St _ _ _ [(21, _), (20, _), (4, _), (3, _), (0, _), (1, _)] _ _ _
        refine St.draw0 [6] [(0, .w), (1, .w), (2, .w), (3, .r), (4, .w), (5, .r), (6, .x)] mixed (by kernel_rfl) rfl ?_
        refine Dr.w rfl rfl rfl rfl (q_move rfl) ?_
        refine Dr.w rfl rfl rfl rfl (q_nil rfl) ?_
        refine Dr.w rfl rfl rfl rfl (q_fieldAddr fo_53_2 rfl rfl) ?_
        refine Dr.r rfl rfl rfl rfl (Sub.rfl' _) (q_load1 ac_51 rfl (hS.pt 1 rfl) rfl) ?_
        refine Dr.w rfl rfl rfl rfl (q_fieldAddr fo_39_1 rfl rfl) ?_
        refine Dr.r rfl rfl rfl rfl (Sub.rfl' _) (q_load1 ac_3 rfl (hS.ro 8 rfl _ _ h3) rfl) ?_
        refine Dr.no rfl rfl rfl (e_delete rfl Try.underlying51 key_3 rfl rfl (hS.map 5 rfl) (fun τd7_6 hmd7_6 hud7_6 => ⟨.inl rfl, ?_⟩))
        replace hS : Stars (_ :: _ :: _ :: _ :: _ :: _ :: _ :: _ :: _ :: rs) _ := (hS.top 5 rfl).mapU hud7_6 hmd7_6
        refine Dr.done ?_
        refine St.keep [21, 20, 4, 3, 0, 1] ?_
        show St _ _ _ [(21, _), (20, _), (4, _), (3, _), (0, _), (1, _)] _ _ _
        skip
        replace hS : Stars (_ :: _ :: _ :: _ :: _ :: _ :: _ :: _ :: _ :: rs) _ := hS.top 8 rfl
        replace hS : Stars (_ :: _ :: _ :: _ :: _ :: _ :: _ :: _ :: _ :: rs) _ := hS.top 8 rfl
        replace hS : Stars (_ :: _ :: _ :: _ :: _ :: _ :: _ :: _ :: _ :: rs) _ := hS.top 8 rfl
        replace hS : Stars (_ :: _ :: _ :: _ :: _ :: _ :: _ :: _ :: _ :: rs) _ := hS.top 3 rfl
        replace hS : Stars (_ :: _ :: _ :: _ :: _ :: _ :: _ :: _ :: _ :: rs) _ := hS.top 4 rfl
        replace hS : Stars (_ :: _ :: _ :: _ :: _ :: _ :: _ :: _ :: _ :: rs) _ := hS.top 8 rfl
        replace hS : Stars (_ :: _ :: _ :: _ :: _ :: _ :: _ :: _ :: _ :: rs) _ := hS.top 8 rfl
        replace hS : Stars (_ :: _ :: _ :: _ :: _ :: _ :: _ :: _ :: _ :: rs) _ := hS.top 8 rfl
        replace hS : Stars (_ :: _ :: _ :: _ :: _ :: _ :: _ :: _ :: _ :: rs) _ := hS.top 8 rfl
        have hmain := main_life (M := M.tick) (n := b3) (.inl (show (e.at_ q qc).kind = 5 by simpa using hc0))
        exact St.conv (SubL.list (by rfl)) (Sub.rfl' _) (hkj _ ⟨_, sc, sp, bs, sl, ml, _, _, by rw [hmain]; exact ⟨hS, rfl, hM0.life hnd _⟩⟩)
      · exact absurd (hc0.symm.trans hc1) (by decide) -- PRUNE
    · skip
      refine St.region rfl ?_
      refine Reg.q rfl rfl rfl (q_ieq rfl rfl) ?_
      refine Reg.q rfl rfl rfl (q_assign rfl) ?_
      refine Reg.done ?_
      refine St.keep [21, 20, 4, 3, 0, 1] ?_
      show St _ _ _ [(21, _), (21, _), (20, _), (4, _), (3, _), (0, _), (1, _)] _ _ _
      refine St.cond rfl (fun hc1 => ?_) (fun hc1 => ?_)
      · skip
        refine St.seq ?_
        refine St.draw0 [9] [(0, .w), (1, .w), (2, .w), (3, .r), (4, .w), (5, .r), (6, .w), (7, .r), (8, .w), (9, .x)] mixed (by kernel_rfl) rfl ?_
        refine Dr.w rfl rfl rfl rfl (q_move rfl) ?_
        refine Dr.w rfl rfl rfl rfl (q_nil rfl) ?_
        refine Dr.w rfl rfl rfl rfl (q_fieldAddr fo_53_1 rfl rfl) ?_
        refine Dr.r rfl rfl rfl rfl (Sub.rfl' _) (q_load1 ac_50 rfl (hS.pt 0 rfl) rfl) ?_
        refine Dr.w rfl rfl rfl rfl (q_fieldAddr fo_39_1 rfl rfl) ?_
        refine Dr.r rfl rfl rfl rfl (Sub.rfl' _) (q_load1 ac_3 rfl (hS.ro 8 rfl _ _ h3) rfl) ?_
        refine Dr.w rfl rfl rfl rfl (q_fieldAddr fo_39_0 rfl rfl) ?_
        refine Dr.r rfl rfl rfl rfl (Sub.rfl' _) (q_load1 ac_3 rfl (hS.ro 8 rfl _ _ h3) rfl) ?_
        refine Dr.w rfl rfl rfl rfl (q_ieq rfl rfl) ?_
        refine Dr.no rfl rfl rfl (e_mapUpdate Try.underlying50 key_3 rfl rfl rfl (hS.map 4 rfl) (fun τu6_9 hmu6_9 huu6_9 => ⟨.inl rfl, ?_⟩))
        replace hS : Stars (_ :: _ :: _ :: _ :: _ :: _ :: _ :: _ :: _ :: rs) _ := (hS.top 4 rfl).mapU huu6_9 hmu6_9
        refine Dr.done ?_
        refine St.keep [21, 21, 20, 4, 3, 0, 1] ?_
        show St _ _ _ [(21, _), (21, _), (20, _), (4, _), (3, _), (0, _), (1, _)] _ _ _
        refine St.draw0 [6] [(0, .w), (1, .w), (2, .w), (3, .r), (4, .w), (5, .r), (6, .x)] mixed (by kernel_rfl) rfl ?_
        refine Dr.w rfl rfl rfl rfl (q_move rfl) ?_
        refine Dr.w rfl rfl rfl rfl (q_nil rfl) ?_
        refine Dr.w rfl rfl rfl rfl (q_fieldAddr fo_53_2 rfl rfl) ?_
        refine Dr.r rfl rfl rfl rfl (Sub.rfl' _) (q_load1 ac_51 rfl (hS.pt 1 rfl) rfl) ?_
        refine Dr.w rfl rfl rfl rfl (q_fieldAddr fo_39_1 rfl rfl) ?_
        refine Dr.r rfl rfl rfl rfl (Sub.rfl' _) (q_load1 ac_3 rfl (hS.ro 8 rfl _ _ h3) rfl) ?_
        refine Dr.no rfl rfl rfl (e_delete rfl Try.underlying51 key_3 rfl rfl (hS.map 5 rfl) (fun τd7_6 hmd7_6 hud7_6 => ⟨.inl rfl, ?_⟩))
        replace hS : Stars (_ :: _ :: _ :: _ :: _ :: _ :: _ :: _ :: _ :: rs) _ := (hS.top 5 rfl).mapU hud7_6 hmd7_6
        refine Dr.done ?_
        refine St.keep [21, 21, 20, 4, 3, 0, 1] ?_
        show St _ _ _ [(21, _), (21, _), (20, _), (4, _), (3, _), (0, _), (1, _)] _ _ _
        skip
        replace hS : Stars (_ :: _ :: _ :: _ :: _ :: _ :: _ :: _ :: _ :: rs) _ := hS.top 8 rfl
        replace hS : Stars (_ :: _ :: _ :: _ :: _ :: _ :: _ :: _ :: _ :: rs) _ := hS.top 8 rfl
        replace hS : Stars (_ :: _ :: _ :: _ :: _ :: _ :: _ :: _ :: _ :: rs) _ := hS.top 8 rfl
        replace hS : Stars (_ :: _ :: _ :: _ :: _ :: _ :: _ :: _ :: _ :: rs) _ := hS.top 3 rfl
        replace hS : Stars (_ :: _ :: _ :: _ :: _ :: _ :: _ :: _ :: _ :: rs) _ := hS.top 4 rfl
        replace hS : Stars (_ :: _ :: _ :: _ :: _ :: _ :: _ :: _ :: _ :: rs) _ := hS.top 8 rfl
        replace hS : Stars (_ :: _ :: _ :: _ :: _ :: _ :: _ :: _ :: _ :: rs) _ := hS.top 8 rfl
        replace hS : Stars (_ :: _ :: _ :: _ :: _ :: _ :: _ :: _ :: _ :: rs) _ := hS.top 8 rfl
        replace hS : Stars (_ :: _ :: _ :: _ :: _ :: _ :: _ :: _ :: _ :: rs) _ := hS.top 8 rfl
        have hmain := main_life (M := M.tick) (n := b3) (.inr (show (e.at_ q qc).kind = 6 by simpa using hc1))
        exact St.conv (SubL.list (by rfl)) (Sub.rfl' _) (hkj _ ⟨_, sc, sp, bs, sl, ml, _, _, by rw [hmain]; exact ⟨hS, rfl, hM0.life hnd _⟩⟩)
      · skip
        refine St.seq ?_
        refine St.region rfl ?_
        refine Reg.q rfl rfl rfl (q_ieq rfl rfl) ?_
        refine Reg.q rfl rfl rfl (q_assign rfl) ?_
        refine Reg.done ?_
        refine St.keep [21, 21, 20, 4, 3, 0, 1, 39] ?_
        show St _ _ _ [(39, _), (21, _), (21, _), (20, _), (4, _), (3, _), (0, _), (1, _)] _ _ _
        refine St.cond rfl (fun hc2 => ?_) (fun hc2 => ?_)
        · skip
          refine St.region rfl ?_
          refine Reg.q rfl rfl rfl (q_move rfl) ?_
          refine Reg.q rfl rfl rfl (q_loadA ac_39 rfl (hS.ro 8 rfl _ _ h3) (rowN_row rfl)) ?_
          replace hS : Stars (_ :: _ :: _ :: _ :: _ :: _ :: _ :: _ :: _ :: rs) _ := hS.top 8 rfl
          replace hS : Stars (_ :: _ :: _ :: _ :: _ :: _ :: _ :: _ :: _ :: rs) _ := hS.top 6 rfl
          replace hS : Stars (_ :: _ :: _ :: _ :: _ :: _ :: _ :: _ :: _ :: rs) _ := hS.top 6 rfl
          replace hS : Stars (_ :: _ :: _ :: _ :: _ :: _ :: _ :: _ :: _ :: rs) _ := hS.top 8 rfl
          replace hS : Stars (_ :: _ :: _ :: _ :: _ :: _ :: _ :: _ :: _ :: rs) _ := hS.top 8 rfl
          replace hS : Stars (_ :: _ :: _ :: _ :: _ :: _ :: _ :: _ :: _ :: rs) _ := hS.top 8 rfl
          replace hS : Stars (_ :: _ :: _ :: _ :: _ :: _ :: _ :: _ :: _ :: rs) _ := hS.top 6 rfl
          refine Reg.x rfl rfl rfl (e_callF rfl rfl rfl ca_13 ((mreg_spec _ ρ3 _ _ _ _ _ _ _ _ _ bs M.tick _ rfl sl ml lal nal N hM0 hN hS (e.at_ q qc)).mono fun v43 τ43 h43 => ?_))
          obtain ⟨br1, sp1, sc1, ml1, nal1, bs1, hS, hbr, hM1⟩ := h43
          refine Reg.done ?_
          refine St.keep [39, 21, 21, 20, 4, 3, 0, 1] ?_
          show St _ _ _ [(39, _), (21, _), (21, _), (20, _), (4, _), (3, _), (0, _), (1, _)] _ _ _
          skip
          replace hS : Stars (_ :: _ :: _ :: _ :: _ :: _ :: _ :: _ :: _ :: rs) _ := hS.top 6 rfl
          replace hS : Stars (_ :: _ :: _ :: _ :: _ :: _ :: _ :: _ :: _ :: rs) _ := hS.top 4 rfl
          replace hS : Stars (_ :: _ :: _ :: _ :: _ :: _ :: _ :: _ :: _ :: rs) _ := hS.top 4 rfl
          replace hS : Stars (_ :: _ :: _ :: _ :: _ :: _ :: _ :: _ :: _ :: rs) _ := hS.top 6 rfl
          replace hS : Stars (_ :: _ :: _ :: _ :: _ :: _ :: _ :: _ :: _ :: rs) _ := hS.top 6 rfl
          replace hS : Stars (_ :: _ :: _ :: _ :: _ :: _ :: _ :: _ :: _ :: rs) _ := hS.top 6 rfl
          replace hS : Stars (_ :: _ :: _ :: _ :: _ :: _ :: _ :: _ :: _ :: rs) _ := hS.top 8 rfl
          replace hS : Stars (_ :: _ :: _ :: _ :: _ :: _ :: _ :: _ :: _ :: rs) _ := hS.top 8 rfl
          replace hS : Stars (_ :: _ :: _ :: _ :: _ :: _ :: _ :: _ :: _ :: rs) _ := hS.top 8 rfl
          have hmain := main_reg (M := M.tick) (n := b3) (show (e.at_ q qc).kind = 3 by simpa using hc2)
          exact St.conv (SubL.list (by rfl)) (Sub.rfl' _) (hkj _ ⟨br1, sc1, sp1, bs1, sl, ml1, lal, nal1, by rw [hmain]; rw [(mreg_rest M.tick (e.at_ q qc)).2.1]; exact ⟨hS, hbr, hM1⟩⟩)
        · skip
          refine St.seq ?_
          refine St.region rfl ?_
          refine Reg.q rfl rfl rfl (q_ieq rfl rfl) ?_
          refine Reg.q rfl rfl rfl (q_assign rfl) ?_
          refine Reg.done ?_
          refine St.keep [39, 21, 21, 20, 4, 3, 0, 1, 44] ?_
          show St _ _ _ [(44, _), (39, _), (21, _), (21, _), (20, _), (4, _), (3, _), (0, _), (1, _)] _ _ _
          refine St.cond rfl (fun hc3 => ?_) (fun hc3 => ?_)
          · skip
            refine St.region rfl ?_
            refine Reg.q rfl rfl rfl (q_move rfl) ?_
            refine Reg.q rfl rfl rfl (q_loadA ac_39 rfl (hS.ro 8 rfl _ _ h3) (rowN_row rfl)) ?_
            replace hS : Stars (_ :: _ :: _ :: _ :: _ :: _ :: _ :: _ :: _ :: rs) _ := hS.top 8 rfl
            replace hS : Stars (_ :: _ :: _ :: _ :: _ :: _ :: _ :: _ :: _ :: rs) _ := hS.top 8 rfl
            replace hS : Stars (_ :: _ :: _ :: _ :: _ :: _ :: _ :: _ :: _ :: rs) _ := hS.top 7 rfl
            replace hS : Stars (_ :: _ :: _ :: _ :: _ :: _ :: _ :: _ :: _ :: rs) _ := hS.top 7 rfl
            replace hS : Stars (_ :: _ :: _ :: _ :: _ :: _ :: _ :: _ :: _ :: rs) _ := hS.top 5 rfl
            replace hS : Stars (_ :: _ :: _ :: _ :: _ :: _ :: _ :: _ :: _ :: rs) _ := hS.top 5 rfl
            refine Reg.x rfl rfl rfl (e_callF rfl rfl rfl ca_14 ((msend_spec _ ρ3 _ _ _ _ _ _ _ _ _ bs M.tick _ rfl sl ml lal nal N hM0 hN hS (e.at_ q qc) hok1).mono fun v48 τ48 h48 => ?_))
            obtain ⟨br1, hS, hbr, hM1⟩ := h48
            refine Reg.done ?_
            refine St.keep [44, 39, 21, 21, 20, 4, 3, 0, 1] ?_
            show St _ _ _ [(44, _), (39, _), (21, _), (21, _), (20, _), (4, _), (3, _), (0, _), (1, _)] _ _ _
            have r1 := (msend_rest M.tick (e.at_ q qc)).1
            replace hS : Stars (_ :: _ :: _ :: _ :: _ :: _ :: _ :: _ :: _ :: rs) _ := hS.top 5 rfl
            replace hS : Stars (_ :: _ :: _ :: _ :: _ :: _ :: _ :: _ :: _ :: rs) _ := hS.top 5 rfl
            replace hS : Stars (_ :: _ :: _ :: _ :: _ :: _ :: _ :: _ :: _ :: rs) _ := hS.top 8 rfl
            replace hS : Stars (_ :: _ :: _ :: _ :: _ :: _ :: _ :: _ :: _ :: rs) _ := hS.top 6 rfl
            replace hS : Stars (_ :: _ :: _ :: _ :: _ :: _ :: _ :: _ :: _ :: rs) _ := hS.top 6 rfl
            replace hS : Stars (_ :: _ :: _ :: _ :: _ :: _ :: _ :: _ :: _ :: rs) _ := hS.top 8 rfl
            replace hS : Stars (_ :: _ :: _ :: _ :: _ :: _ :: _ :: _ :: _ :: rs) _ := hS.top 8 rfl
            replace hS : Stars (_ :: _ :: _ :: _ :: _ :: _ :: _ :: _ :: _ :: rs) _ := hS.top 8 rfl
            replace hS : Stars (_ :: _ :: _ :: _ :: _ :: _ :: _ :: _ :: _ :: rs) _ := hS.top 8 rfl
            have hmain := main_send (M := M.tick) (n := b3) (show (e.at_ q qc).kind = 1 by simpa using hc3)
            exact St.conv (SubL.list (by rfl)) (Sub.rfl' _) (hkj _ ⟨br1, sc, sp, bs, sl, ml, lal, nal, by rw [hmain]; rw [r1]; exact ⟨hS, hbr, hM1⟩⟩)
          · skip
            refine St.seq ?_
            refine St.region rfl ?_
            refine Reg.q rfl rfl rfl (q_ieq rfl rfl) ?_
            refine Reg.q rfl rfl rfl (q_assign rfl) ?_
            refine Reg.done ?_
            refine St.keep [44, 39, 21, 21, 20, 4, 3, 0, 1, 49] ?_
            show St _ _ _ [(49, _), (44, _), (39, _), (21, _), (21, _), (20, _), (4, _), (3, _), (0, _), (1, _)] _ _ _
            refine St.cond rfl (fun hc4 => ?_) (fun hc4 => ?_)
            · skip
              refine St.region rfl ?_
              refine Reg.q rfl rfl rfl (q_move rfl) ?_
              refine Reg.q rfl rfl rfl (q_loadA ac_39 rfl (hS.ro 8 rfl _ _ h3) (rowN_row rfl)) ?_
              replace hS : Stars (_ :: _ :: _ :: _ :: _ :: _ :: _ :: _ :: _ :: rs) _ := hS.top 8 rfl
              replace hS : Stars (_ :: _ :: _ :: _ :: _ :: _ :: _ :: _ :: _ :: rs) _ := hS.top 8 rfl
              replace hS : Stars (_ :: _ :: _ :: _ :: _ :: _ :: _ :: _ :: _ :: rs) _ := hS.top 8 rfl
              replace hS : Stars (_ :: _ :: _ :: _ :: _ :: _ :: _ :: _ :: _ :: rs) _ := hS.top 8 rfl
              replace hS : Stars (_ :: _ :: _ :: _ :: _ :: _ :: _ :: _ :: _ :: rs) _ := hS.top 8 rfl
              replace hS : Stars (_ :: _ :: _ :: _ :: _ :: _ :: _ :: _ :: _ :: rs) _ := hS.top 7 rfl
              replace hS : Stars (_ :: _ :: _ :: _ :: _ :: _ :: _ :: _ :: _ :: rs) _ := hS.top 7 rfl
              replace hS : Stars (_ :: _ :: _ :: _ :: _ :: _ :: _ :: _ :: _ :: rs) _ := hS.top 7 rfl
              refine Reg.x rfl rfl rfl (e_callF rfl rfl rfl ca_15 ((mdeliver_spec _ ρ3 _ _ _ _ _ _ _ _ _ bs M.tick _ rfl sl ml lal nal N hM0 hN hS (e.at_ q qc) hok1).mono fun v53 τ53 h53 => ?_))
              obtain ⟨br1, hS, hbr, hM1⟩ := h53
              refine Reg.done ?_
              refine St.keep [49, 44, 39, 21, 21, 20, 4, 3, 0, 1] ?_
              show St _ _ _ [(49, _), (44, _), (39, _), (21, _), (21, _), (20, _), (4, _), (3, _), (0, _), (1, _)] _ _ _
              have r1 : (M.tick.deliver (e.at_ q qc)).stays.length = M.stays.length := by rw [← hM1.len]; exact hM.len
              replace hS : Stars (_ :: _ :: _ :: _ :: _ :: _ :: _ :: _ :: _ :: rs) _ := hS.top 7 rfl
              replace hS : Stars (_ :: _ :: _ :: _ :: _ :: _ :: _ :: _ :: _ :: rs) _ := hS.top 7 rfl
              replace hS : Stars (_ :: _ :: _ :: _ :: _ :: _ :: _ :: _ :: _ :: rs) _ := hS.top 7 rfl
              replace hS : Stars (_ :: _ :: _ :: _ :: _ :: _ :: _ :: _ :: _ :: rs) _ := hS.top 7 rfl
              replace hS : Stars (_ :: _ :: _ :: _ :: _ :: _ :: _ :: _ :: _ :: rs) _ := hS.top 7 rfl
              replace hS : Stars (_ :: _ :: _ :: _ :: _ :: _ :: _ :: _ :: _ :: rs) _ := hS.top 8 rfl
              replace hS : Stars (_ :: _ :: _ :: _ :: _ :: _ :: _ :: _ :: _ :: rs) _ := hS.top 8 rfl
              replace hS : Stars (_ :: _ :: _ :: _ :: _ :: _ :: _ :: _ :: _ :: rs) _ := hS.top 8 rfl
              replace hS : Stars (_ :: _ :: _ :: _ :: _ :: _ :: _ :: _ :: _ :: rs) _ := hS.top 8 rfl
              have hmain := main_deliver (M := M.tick) (n := b3) (show (e.at_ q qc).kind = 2 by simpa using hc4)
              exact St.conv (SubL.list (by rfl)) (Sub.rfl' _) (hkj _ ⟨br1, sc, sp, bs, _, ml, lal, nal, by rw [hmain]; rw [r1]; exact ⟨hS, hbr, hM1⟩⟩)
            · skip
              refine St.seq ?_
              refine St.region rfl ?_
              refine Reg.q rfl rfl rfl (q_ieq rfl rfl) ?_
              refine Reg.q rfl rfl rfl (q_assign rfl) ?_
              refine Reg.done ?_
              refine St.keep [49, 44, 39, 21, 21, 20, 4, 3, 0, 1, 54] ?_
              show St _ _ _ [(54, _), (49, _), (44, _), (39, _), (21, _), (21, _), (20, _), (4, _), (3, _), (0, _), (1, _)] _ _ _
              refine St.cond rfl (fun hc5 => ?_) (fun hc5 => ?_)
              · skip
                refine St.seq ?_
                refine St.region rfl ?_
                refine Reg.q rfl rfl rfl (q_move rfl) ?_
                refine Reg.q rfl rfl rfl (q_loadA ac_39 rfl (hS.ro 8 rfl _ _ h3) (rowN_row rfl)) ?_
                replace hS : Stars (_ :: _ :: _ :: _ :: _ :: _ :: _ :: _ :: _ :: rs) _ := hS.top 8 rfl
                replace hS : Stars (_ :: _ :: _ :: _ :: _ :: _ :: _ :: _ :: _ :: rs) _ := hS.top 8 rfl
                replace hS : Stars (_ :: _ :: _ :: _ :: _ :: _ :: _ :: _ :: _ :: rs) _ := hS.top 7 rfl
                replace hS : Stars (_ :: _ :: _ :: _ :: _ :: _ :: _ :: _ :: _ :: rs) _ := hS.top 7 rfl
                replace hS : Stars (_ :: _ :: _ :: _ :: _ :: _ :: _ :: _ :: _ :: rs) _ := hS.top 4 rfl
                refine Reg.x rfl rfl rfl (e_callF rfl rfl rfl ca_16 ((mstay_spec _ ρ3 _ _ _ _ _ _ _ _ _ _ _ _ _ _ M.tick.bad rfl bs M.tick sl ml lal nal N hM0 hS (e.at_ q qc)).mono fun v58 τ58 h58 => ?_))
                obtain ⟨br1, rfl, hS, hbr⟩ := h58
                refine Reg.q rfl rfl rfl (q_assign rfl) ?_
                refine Reg.done ?_
                refine St.keep [54, 49, 44, 39, 21, 21, 20, 4, 3, 0, 1, 5] ?_
                show St _ _ _ [(5, _), (54, _), (49, _), (44, _), (39, _), (21, _), (21, _), (20, _), (4, _), (3, _), (0, _), (1, _)] _ _ _
                refine St.seq ?_
                refine St.region rfl ?_
                refine Reg.q rfl rfl rfl (q_move rfl) ?_
                refine Reg.q rfl rfl rfl (QOp.eq (v' := .bool (M.tick.stayAt (e.at_ q qc)).isSome) (q_pnen Try.underlying56 rfl rfl) (by show Value.bool (!_) = _; rw [stay_none hM0 (e.at_ q qc)]; cases M.tick.stayAt (e.at_ q qc) <;> rfl)) ?_
                refine Reg.done ?_
                refine St.keep [5, 54, 49, 44, 39, 21, 21, 20, 4, 3, 0, 1, 60] ?_
                show St _ _ _ [(60, _), (5, _), (54, _), (49, _), (44, _), (39, _), (21, _), (21, _), (20, _), (4, _), (3, _), (0, _), (1, _)] _ _ _
                refine St.cond rfl (fun hc6 => ?_) (fun hc6 => ?_)
                · obtain ⟨k, s, bk, hse, hs, hbk⟩ := stay_get hM0 (e.at_ q qc) hc6
                  have hklt : k < M.stays.length := (List.getElem?_eq_some_iff.1 hs).1
                  obtain ⟨a0, c0, a1, c1, cb, cl, hst, _, _, _, _⟩ := msts_at hS (k := 3) rfl hbk hs
                  have e9 : blk ((M.tick.stayAt (e.at_ q qc)).bind fun x => bs[x.1]?) = .pointer (some ⟨bk, 0, none⟩) := by rw [hse]; show blk (bs[k]?) = _; rw [hbk]; rfl
                  rw [e9]
                  refine St.seq ?_
                  refine St.region rfl ?_
                  refine Reg.q rfl rfl rfl (q_move rfl) ?_
                  refine Reg.q rfl rfl rfl (q_move rfl) ?_
                  refine Reg.q rfl rfl rfl (q_nil rfl) ?_
                  refine Reg.q rfl rfl rfl (q_fieldAddr fo_65_5 rfl rfl) ?_
                  refine Reg.q rfl rfl rfl (q_load1 ac_63 rfl hst rfl) ?_
                  refine Reg.q rfl rfl rfl (QOp.eq (v' := .bool s.trans.isSome) (q_pnen Try.underlying63 rfl rfl) (by show _ = Value.bool _; cases s.trans <;> rfl)) ?_
                  refine Reg.x rfl rfl rfl (e_callF rfl rfl rfl ca_17 ((mbreaks_spec _ _ _ _ _ _ _ _ _ _ _ _ _ _ _ hS _ _).mono fun v67 τ67 h67 => ?_))
                  replace hS := h67
                  replace hbr := least_brk s.trans.isSome hbr (show (1 : Int) ≤ 1 by decide) (by decide)
                  refine Reg.done ?_
                  refine St.keep [60, 5, 54, 49, 44, 39, 21, 21, 20, 4, 3, 0, 1] ?_
                  show St _ _ _ [(60, _), (5, _), (54, _), (49, _), (44, _), (39, _), (21, _), (21, _), (20, _), (4, _), (3, _), (0, _), (1, _)] _ _ _
                  replace hS : Stars (_ :: _ :: _ :: _ :: _ :: _ :: _ :: _ :: _ :: rs) _ := hS.top 3 rfl
                  obtain ⟨a0, c0, a1, c1, cb, cl, hcn, hS'⟩ := msts_open hS hbk hs
                  replace hS := hS'
                  refine St.region rfl ?_
                  refine Reg.q rfl rfl rfl (q_move rfl) ?_
                  refine Reg.q rfl rfl rfl (q_nil rfl) ?_
                  refine Reg.q rfl rfl rfl (q_fieldAddr fo_65_5 rfl rfl) ?_
                  refine Reg.no rfl rfl (e_store rfl rfl sz_63 rfl (hS.pt 0 rfl) (Nat.le_of_ble_eq_true rfl) rfl (storeN_row rfl) (fun τs18_3 hs18_3 hu18_3 => ?_))
                  replace hS : Stars (_ :: _ :: _ :: _ :: _ :: _ :: _ :: _ :: _ :: _ :: _ :: _ :: _ :: rs) _ := (hS.top 0 rfl).ptU hu18_3 hs18_3
                  refine Reg.done ?_
                  refine St.keep [60, 5, 54, 49, 44, 39, 21, 21, 20, 4, 3, 0, 1] ?_
                  show St _ _ _ [(60, _), (5, _), (54, _), (49, _), (44, _), (39, _), (21, _), (21, _), (20, _), (4, _), (3, _), (0, _), (1, _)] _ _ _
                  replace hS := msts_close (s := { s with trans := some (b3, (e.at_ q qc)) }) hcn hS hbk hklt
                  obtain ⟨t1, t2⟩ := mtrans_some (n := b3) hse
                  have t3 := (mtrans_rest M.tick b3 (e.at_ q qc)).1
                  replace hS : Stars (_ :: _ :: _ :: _ :: _ :: _ :: _ :: _ :: _ :: rs) _ := hS.top 4 rfl
                  replace hS : Stars (_ :: _ :: _ :: _ :: _ :: _ :: _ :: _ :: _ :: rs) _ := hS.top 1 rfl
                  replace hS : Stars (_ :: _ :: _ :: _ :: _ :: _ :: _ :: _ :: _ :: rs) _ := hS.top 8 rfl
                  replace hS : Stars (_ :: _ :: _ :: _ :: _ :: _ :: _ :: _ :: _ :: rs) _ := hS.top 5 rfl
                  replace hS : Stars (_ :: _ :: _ :: _ :: _ :: _ :: _ :: _ :: _ :: rs) _ := hS.top 5 rfl
                  replace hS : Stars (_ :: _ :: _ :: _ :: _ :: _ :: _ :: _ :: _ :: rs) _ := hS.top 8 rfl
                  replace hS : Stars (_ :: _ :: _ :: _ :: _ :: _ :: _ :: _ :: _ :: rs) _ := hS.top 8 rfl
                  replace hS : Stars (_ :: _ :: _ :: _ :: _ :: _ :: _ :: _ :: _ :: rs) _ := hS.top 8 rfl
                  replace hS : Stars (_ :: _ :: _ :: _ :: _ :: _ :: _ :: _ :: _ :: rs) _ := hS.top 8 rfl
                  have hmain := main_trans (M := M.tick) (n := b3) (show (e.at_ q qc).kind = 4 by simpa using hc5)
                  exact St.conv (SubL.list (by rfl)) (Sub.rfl' _) (hkj _ ⟨_, sc, sp, bs, sl, ml, lal, nal, by rw [hmain]; rw [t1, t3, List.length_set]; exact ⟨hS, hbr.trans (least_congr fun q => by rw [t2, hse]; simp), hM0.trans h3⟩⟩)
                · have hse : M.tick.stayAt (e.at_ q qc) = none := by cases h : M.tick.stayAt (e.at_ q qc) with | none => rfl | some x => rw [h] at hc6; cases hc6
                  refine St.skip ?_
                  obtain ⟨t1, t2⟩ := mtrans_none (n := b3) hse
                  have t3 := (mtrans_rest M.tick b3 (e.at_ q qc)).1
                  replace hS : Stars (_ :: _ :: _ :: _ :: _ :: _ :: _ :: _ :: _ :: rs) _ := hS.top 4 rfl
                  replace hS : Stars (_ :: _ :: _ :: _ :: _ :: _ :: _ :: _ :: _ :: rs) _ := hS.top 4 rfl
                  replace hS : Stars (_ :: _ :: _ :: _ :: _ :: _ :: _ :: _ :: _ :: rs) _ := hS.top 8 rfl
                  replace hS : Stars (_ :: _ :: _ :: _ :: _ :: _ :: _ :: _ :: _ :: rs) _ := hS.top 5 rfl
                  replace hS : Stars (_ :: _ :: _ :: _ :: _ :: _ :: _ :: _ :: _ :: rs) _ := hS.top 5 rfl
                  replace hS : Stars (_ :: _ :: _ :: _ :: _ :: _ :: _ :: _ :: _ :: rs) _ := hS.top 8 rfl
                  replace hS : Stars (_ :: _ :: _ :: _ :: _ :: _ :: _ :: _ :: _ :: rs) _ := hS.top 8 rfl
                  replace hS : Stars (_ :: _ :: _ :: _ :: _ :: _ :: _ :: _ :: _ :: rs) _ := hS.top 8 rfl
                  replace hS : Stars (_ :: _ :: _ :: _ :: _ :: _ :: _ :: _ :: _ :: rs) _ := hS.top 8 rfl
                  have hmain := main_trans (M := M.tick) (n := b3) (show (e.at_ q qc).kind = 4 by simpa using hc5)
                  exact St.conv (SubL.list (by rfl)) (Sub.rfl' _) (hkj _ ⟨_, sc, sp, bs, sl, ml, lal, nal, by rw [hmain]; rw [t1, t3]; exact ⟨hS, hbr.trans (least_congr fun q => by rw [t2, hse]; rfl), hM0.trans h3⟩⟩)
              · skip
                refine St.skip ?_
                have n5 : ¬ (e.at_ q qc).kind = 5 := by simpa using hc0
                have n6 : ¬ (e.at_ q qc).kind = 6 := by simpa using hc1
                have n3 : ¬ (e.at_ q qc).kind = 3 := by simpa using hc2
                have n1 : ¬ (e.at_ q qc).kind = 1 := by simpa using hc3
                have n2 : ¬ (e.at_ q qc).kind = 2 := by simpa using hc4
                have n4 : ¬ (e.at_ q qc).kind = 4 := by simpa using hc5
                have hmain := main_else (M := M.tick) (n := b3) n5 n6 n3 n1 n2 n4
                exact St.conv (SubL.list (by rfl)) (Sub.rfl' _) (hkj _ ⟨_, sc, sp, bs, sl, ml, lal, nal, by rw [hmain]; exact ⟨hS, rfl, hM0.up (Sub.rfl' _) (Nat.le_succ _)⟩⟩)
  · intro τj ⟨br, sc, sp, bs, sl, ml, lal, nal, hS, hbr, hM1⟩
    refine St.inBlock ?_
    refine St.seq ?_
    refine St.seq ?_
    refine St.region rfl ?_
    refine Reg.q rfl rfl rfl (q_move rfl) ?_
    refine Reg.q rfl rfl rfl (q_nil rfl) ?_
    refine Reg.q rfl rfl rfl (q_fieldAddr fo_53_3 rfl rfl) ?_
    refine Reg.q rfl rfl rfl (q_load1 ac_3 rfl (hS.pt 0 rfl) rfl) ?_
    refine Reg.q rfl rfl rfl (q_gt rfl rfl) ?_
    refine Reg.q rfl rfl rfl (q_move rfl) ?_
    refine Reg.joinv 82 (.bool (decide (br > 0) && M.at_ == 0)) 6 [4, 0, 71, 72, 73, 74, 75] (fun hk19_11 => ?_) ?_
    · skip
      refine Reg.split (d := 76) rfl (fun hg76 => ?_) (fun hg76 => ?_)
      · skip
        refine Reg.q rfl rfl rfl (q_move rfl) ?_
        refine Reg.q rfl rfl rfl (q_nil rfl) ?_
        refine Reg.q rfl rfl rfl (q_fieldAddr fo_53_5 rfl rfl) ?_
        refine Reg.q rfl rfl rfl (q_load1 ac_3 rfl (hS.pt 0 rfl) rfl) ?_
        refine Reg.q rfl rfl rfl (q_ieq rfl rfl) ?_
        refine Reg.q rfl rfl rfl (q_pickT rfl rfl) ?_
        exact Reg.meet 7 [4, 0, 71, 72, 73, 74, 75] hk19_11 rfl (by simp only [hg76, Bool.true_and, Bool.false_and]) rfl rfl
      · skip
        refine Reg.skip rfl rfl rfl ?_
        refine Reg.skip rfl rfl rfl ?_
        refine Reg.skip rfl rfl rfl ?_
        refine Reg.skip rfl rfl rfl ?_
        refine Reg.skip rfl rfl rfl ?_
        refine Reg.q rfl rfl rfl (q_pickF rfl rfl) ?_
        exact Reg.meet 7 [4, 0, 71, 72, 73, 74, 75] hk19_11 rfl (by simp only [hg76, Bool.true_and, Bool.false_and]) rfl rfl
    · skip
      refine Reg.done ?_
      refine St.keep [4, 0, 82] ?_
      show St _ _ _ [(82, _), (4, _), (0, _)] _ _ _
      refine St.cond rfl (fun hc7 => ?_) (fun hc7 => ?_)
      · skip
        refine St.draw0 [12, 15] [(0, .w), (1, .w), (2, .w), (3, .w), (4, .w), (5, .r), (6, .w), (7, .w), (8, .w), (9, .r), (10, .w), (11, .w), (12, .x), (13, .w), (14, .w), (15, .x)] mixed (by kernel_rfl) rfl ?_
        refine Dr.w rfl rfl rfl rfl (q_move rfl) ?_
        refine Dr.w rfl rfl rfl rfl (q_move rfl) ?_
        refine Dr.w rfl rfl rfl rfl (q_move rfl) ?_
        refine Dr.w rfl rfl rfl rfl (q_nil rfl) ?_
        refine Dr.w rfl rfl rfl rfl (q_fieldAddr fo_53_4 rfl rfl) ?_
        refine Dr.r rfl rfl rfl rfl (Sub.rfl' _) (q_load1 ac_3 rfl (hS.pt 0 rfl) rfl) ?_
        refine Dr.w rfl rfl rfl rfl (q_move rfl) ?_
        refine Dr.w rfl rfl rfl rfl (q_nil rfl) ?_
        refine Dr.w rfl rfl rfl rfl (q_fieldAddr fo_53_3 rfl rfl) ?_
        refine Dr.r rfl rfl rfl rfl (Sub.rfl' _) (q_load1 ac_3 rfl (hS.pt 0 rfl) rfl) ?_
        refine Dr.w rfl rfl rfl rfl (q_nil rfl) ?_
        refine Dr.w rfl rfl rfl rfl (q_fieldAddr fo_53_5 rfl rfl) ?_
        refine Dr.no rfl rfl rfl (e_store rfl rfl sz_3 rfl (hS.pt 0 rfl) (Nat.le_of_ble_eq_true rfl) rfl (storeN_row rfl) (fun τs20_12 hs20_12 hu20_12 => ⟨.inl rfl, ?_⟩))
        replace hS : Stars (_ :: _ :: _ :: _ :: _ :: _ :: _ :: _ :: _ :: rs) _ := (hS.top 0 rfl).ptU hu20_12 hs20_12
        refine Dr.w rfl rfl rfl rfl (q_nil rfl) ?_
        refine Dr.w rfl rfl rfl rfl (q_fieldAddr fo_53_6 rfl rfl) ?_
        refine Dr.no rfl rfl rfl (e_store rfl rfl sz_3 rfl (hS.pt 0 rfl) (Nat.le_of_ble_eq_true rfl) rfl (storeN_row rfl) (fun τs20_15 hs20_15 hu20_15 => ⟨.inl rfl, ?_⟩))
        replace hS : Stars (_ :: _ :: _ :: _ :: _ :: _ :: _ :: _ :: _ :: rs) _ := (hS.top 0 rfl).ptU hu20_15 hs20_15
        refine Dr.done ?_
        refine St.keep [82, 4, 0] ?_
        show St _ _ _ [(82, _), (4, _), (0, _)] _ _ _
        refine St.seq ?_
        refine St.region rfl ?_
        refine Reg.q rfl rfl rfl (q_move rfl) ?_
        refine Reg.q rfl rfl rfl (q_nil rfl) ?_
        refine Reg.q rfl rfl rfl (q_fieldAddr fo_53_3 rfl rfl) ?_
        refine Reg.q rfl rfl rfl (q_load1 ac_3 rfl (hS.pt 0 rfl) rfl) ?_
        refine Reg.q rfl rfl rfl (q_assign rfl) ?_
        refine Reg.done ?_
        refine St.keep [82, 4, 0] ?_
        show St _ _ _ [(4, _), (82, _), (4, _), (0, _)] _ _ _
        refine St.ret Try.func7 (.tmp rfl .nil) (Sub.rfl' _) ?_
        obtain ⟨m1, m2, m3⟩ := main_len M.tick b3 (e.at_ q qc)
        have hmk : (M.tick.main b3 (e.at_ q qc)).mark = _ := mark_T (M := (M.tick.main b3 (e.at_ q qc))) (by rw [← hbr, m2]; exact hc7)
        refine ⟨ρ3, b3, q, qc, hs3, hok1, ?_, sc, sp, bs, sl, ml, lal, nal, ?_, rfl, ?_⟩
        · rw [add_eq, hmk]; show _ = Value.int .i64 (least (M.tick.main b3 (e.at_ q qc)).bad); rw [← hbr]; rfl
        · rw [add_eq, hmk]; show Stars (pt tb (.cells (monC sb eb mb sp (M.tick.main b3 (e.at_ q qc)).stays.length sc lb nb (least (M.tick.main b3 (e.at_ q qc)).bad) (M.tick.main b3 (e.at_ q qc)).len (M.tick.main b3 (e.at_ q qc)).len (least (M.tick.main b3 (e.at_ q qc)).bad)) _ _) :: _) _; rw [m1, ← hbr]; exact hS
        · rw [add_eq]; exact hM1.mark
      · skip
        refine St.skip ?_
        refine St.seq ?_
        refine St.region rfl ?_
        refine Reg.q rfl rfl rfl (q_move rfl) ?_
        refine Reg.q rfl rfl rfl (q_nil rfl) ?_
        refine Reg.q rfl rfl rfl (q_fieldAddr fo_53_3 rfl rfl) ?_
        refine Reg.q rfl rfl rfl (q_load1 ac_3 rfl (hS.pt 0 rfl) rfl) ?_
        refine Reg.q rfl rfl rfl (q_assign rfl) ?_
        refine Reg.done ?_
        refine St.keep [82, 4, 0] ?_
        show St _ _ _ [(4, _), (82, _), (4, _), (0, _)] _ _ _
        refine St.ret Try.func7 (.tmp rfl .nil) (Sub.rfl' _) ?_
        obtain ⟨m1, m2, m3⟩ := main_len M.tick b3 (e.at_ q qc)
        have hmk : (M.tick.main b3 (e.at_ q qc)).mark = _ := mark_F (M := (M.tick.main b3 (e.at_ q qc))) (by rw [← hbr, m2]; exact hc7)
        refine ⟨ρ3, b3, q, qc, hs3, hok1, ?_, sc, sp, bs, sl, ml, lal, nal, ?_, rfl, ?_⟩
        · rw [add_eq, hmk, ← hbr]; rfl
        · rw [add_eq, hmk, m1, m2, m3, ← hbr]; exact hS
        · rw [add_eq]; exact hM1.mark
end Go.Proofs.Ytdgdbnkhmdncdaa
