/- The judge: each message once, in the order of keys, behind what its sender had. -/
import Derived.Test.YtdgdbnkhmdncdaaJ1
import Derived.Test.YtdgdbnkhmdncdaaJb
set_option linter.unusedSectionVars false
set_option linter.unusedSimpArgs false
set_option linter.unusedVariables false
namespace Go.Proofs.Ytdgdbnkhmdncdaa
open Go.Gw Go.Cs
variable [Env]
set_option maxHeartbeats 4000000
namespace FJ7
theorem ac_103 : aggCells Try.prog 103 = some (some 8) := by kernel_rfl
theorem ac_22 : aggCells Try.prog 22 = some none := by kernel_rfl
theorem ac_3 : aggCells Try.prog 3 = some none := by kernel_rfl
theorem ac_30 : aggCells Try.prog 30 = some (some 2) := by kernel_rfl
theorem ac_31 : aggCells Try.prog 31 = some none := by kernel_rfl
theorem ac_32 : aggCells Try.prog 32 = some none := by kernel_rfl
theorem ac_34 : aggCells Try.prog 34 = some (some 6) := by kernel_rfl
theorem ac_39 : aggCells Try.prog 39 = some (some 19) := by kernel_rfl
theorem ac_68 : aggCells Try.prog 68 = some none := by kernel_rfl
theorem ac_90 : aggCells Try.prog 90 = some none := by kernel_rfl
theorem ac_98 : aggCells Try.prog 98 = some (some 5) := by kernel_rfl
theorem ac_99 : aggCells Try.prog 99 = some none := by kernel_rfl
theorem ca_28 : callable Try.prog 28 = true := by kernel_rfl
theorem ca_29 : callable Try.prog 29 = true := by kernel_rfl
theorem ca_35 : callable Try.prog 35 = true := by kernel_rfl
theorem fo_101_3 : fieldOff Try.prog 101 3 = some 4 := by kernel_rfl
theorem fo_103_1 : fieldOff Try.prog 103 1 = some 1 := by kernel_rfl
theorem fo_34_0 : fieldOff Try.prog 34 0 = some 0 := by kernel_rfl
theorem fo_34_1 : fieldOff Try.prog 34 1 = some 1 := by kernel_rfl
theorem fo_34_4 : fieldOff Try.prog 34 4 = some 4 := by kernel_rfl
theorem fo_39_0 : fieldOff Try.prog 39 0 = some 0 := by kernel_rfl
theorem fo_39_1 : fieldOff Try.prog 39 1 = some 1 := by kernel_rfl
theorem fo_39_2 : fieldOff Try.prog 39 2 = some 2 := by kernel_rfl
theorem fo_39_5 : fieldOff Try.prog 39 5 = some 7 := by kernel_rfl
theorem fo_70_0 : fieldOff Try.prog 70 0 = some 0 := by kernel_rfl
theorem fo_70_1 : fieldOff Try.prog 70 1 = some 1 := by kernel_rfl
theorem pl_94 : places Try.prog 94 = some #[(0, 2), (2, 1), (3, 1)] := by kernel_rfl
theorem pl_98 : places Try.prog 98 = some #[(0, 1), (1, 4)] := by kernel_rfl
theorem se_22 : sliceElem Try.prog 22 = some 19 := by kernel_rfl
theorem se_32 : sliceElem Try.prog 32 = some 1 := by kernel_rfl
theorem se_68 : sliceElem Try.prog 68 = some 1 := by kernel_rfl
theorem se_99 : sliceElem Try.prog 99 = some 8 := by kernel_rfl
theorem sz_103 : szOf Try.prog 103 = some 8 := by kernel_rfl
theorem sz_39 : szOf Try.prog 39 = some 19 := by kernel_rfl
theorem sz_98 : szOf Try.prog 98 = some 5 := by kernel_rfl
theorem ti_31_3 : toInt Try.prog 31 3 = some .i64 := by kernel_rfl
theorem zo_103 : zeroOf Try.prog 103 = some #[.int .i64 0, .int .i64 0, .int .u32 0, .int .u64 0, .int .i64 0, .slice none 0 0, .string ⟨#[]⟩, .bool false] := by kernel_rfl
theorem zo_39 : zeroOf Try.prog 39 = some #[.int .i64 0, .int .i64 0, .int .u64 0, .int .i64 0, .int .u64 0, .int .i64 0, .int .u64 0, .int .i64 0, .int .u32 0, .int .u64 0, .int .i64 0, .slice none 0 0, .string ⟨#[]⟩, .int .u64 0, .int .u64 0, .int .i64 0, .int .u64 0, .slice none 0 0, .string ⟨#[]⟩] := by kernel_rfl
theorem zo_94 : zeroOf Try.prog 94 = some #[.int .u64 0, .int .i64 0, .int .i64 0, .int .u32 0] := by kernel_rfl
theorem zo_98 : zeroOf Try.prog 98 = some #[.int .i64 0, .int .u64 0, .int .i64 0, .int .i64 0, .int .u32 0] := by kernel_rfl
theorem zv_3 : zeroV Try.prog 3 = some (.int .i64 0) := by kernel_rfl
theorem zv_4 : zeroV Try.prog 4 = some (.bool false) := by kernel_rfl
end FJ7
open FJ7

/-- The stays of a trace that was gone through: they are only read any more. -/
structure StaysIs (ρ : Heap) (es : List Ev) (p sp : Option Addr) (bs : List Nat) (ss : List JSt) : Prop where
  rd : Rd ρ 1 sp ss.length (bs.flatMap ptrC)
  at_ : ∀ (i : Nat) (b : Nat) (s : JSt), bs[i]? = some b → ss[i]? = some s → ∃ gp gc up uc, ρ b = some (.cells (stayC p bs s gp gc up uc) 101 (0, 0)) ∧ Rd ρ 8 gp s.gots.length (s.gots.flatMap Got.cells)
  len : bs.length = ss.length
  wf : ∀ s ∈ ss, s.wf es ss.length
  few : ss.length ≤ 100000 ∧ ∀ s ∈ ss, s.gots.length ≤ 100000
theorem StaysIs.up {ρ ρ' : Heap} {es : List Ev} {p sp : Option Addr} {bs : List Nat} {ss : List JSt} (h : StaysIs ρ es p sp bs ss) (hs : Sub ρ ρ') : StaysIs ρ' es p sp bs ss :=
  ⟨Go.Cs.Rd.up h.rd hs, fun i b s hb hi => by obtain ⟨gp, gc, up, uc, h1, h2⟩ := h.at_ i b s hb hi; exact ⟨gp, gc, up, uc, hs _ _ h1, Go.Cs.Rd.up h2 hs⟩, h.len, h.wf, h.few⟩
theorem StaysIs.get {ρ : Heap} {es : List Ev} {p sp : Option Addr} {bs : List Nat} {ss : List JSt} (h : StaysIs ρ es p sp bs ss) {i : Nat} (hi : i < ss.length) : ∃ b s gp gc up uc b1 o1 cs1 T1 f1, ss[i]? = some s ∧ s ∈ ss ∧ ρ b = some (.cells (stayC p bs s gp gc up uc) 101 (0, 0)) ∧ Rd ρ 8 gp s.gots.length (s.gots.flatMap Got.cells) ∧ sp = some ⟨b1, o1, none⟩ ∧ ρ b1 = some (.cells cs1 T1 f1) ∧ row cs1 (o1 + i * 1) 1 = some (ptrC b) := by
  have hb : i < bs.length := by rw [h.len]; exact hi
  obtain ⟨gp, gc, up, uc, h1, h2⟩ := h.at_ i _ _ (List.getElem?_eq_getElem hb) (List.getElem?_eq_getElem hi)
  obtain ⟨b1, o1, cs1, T1, f1, e1, hb1, hl1, hr1⟩ := Rd.row ptrC_len (by decide) h.rd (List.getElem?_eq_getElem hb)
  exact ⟨_, _, gp, gc, up, uc, b1, o1, cs1, T1, f1, List.getElem?_eq_getElem hi, List.getElem_mem hi, h1, h2, e1, hb1, hr1⟩
theorem StaysIs.ok {ρ : Heap} {es : List Ev} {p sp : Option Addr} {bs : List Nat} {ss : List JSt} (h : StaysIs ρ es p sp bs ss) (hT : TraceIs ρ p es) {s : JSt} (hs : s ∈ ss) {g : Got} (hg : g ∈ s.gots) : g.m.ok ρ := by
  obtain ⟨e, he, hm⟩ := (h.wf s hs).gots g hg
  rw [hm]; exact (hT.2 e (List.mem_of_getElem? he)).1

theorem jonce_spec (σ ρ : Heap) (rs : List Asr) (es : List Ev) (p sp : Option Addr) (c sc : Nat) (hT : TraceIs ρ p es) (hes : es.length ≤ 100000) (bs : List Nat) (ss : List JSt) (hA : StaysIs ρ es p sp bs ss) (tb mb : Nat) (nm : Int) (f : Int → Bool) (al : List (Int × Value)) (hbad : BadIs al f) (hS : Stars (pt tb (.cells (traceC p es.length c sp ss.length sc mb nm) 70 (0, 0)) :: mapA encI mb al :: ro ρ :: rs) σ) : Does Try.prog 20 #[.pointer (some ⟨tb, 0, none⟩)] σ (fun v τ => ∃ al', Stars (pt tb (.cells (traceC p es.length c sp ss.length sc mb nm) 70 (0, 0)) :: mapA encI mb al' :: ro ρ :: rs) τ ∧ BadIs al' (fun q => (f q || (q == 3 && (onceB es es.length || once3 ss ss.length))) || (q == 4 && once4 ss ss.length))) := by
  refine Does.enter (n := 113) (l := [(0, _)]) Try.func20 rfl rfl (by simp) rfl ?_
  refine St.seq ?_
  refine St.region rfl ?_
  refine Reg.x rfl rfl rfl (e_makeMap (fun b13 τ13 hb13 => ?_))
  replace hS : Stars (_ :: _ :: _ :: _ :: rs) _ := hS.mapNew (enc := encWho) hb13
  refine Reg.q rfl rfl rfl (q_assign rfl) ?_
  refine Reg.done ?_
  refine St.keep [0, 2] ?_
  show St _ _ _ [(2, _), (0, _)] _ _ _
  refine St.seq ?_
  refine St.seq ?_
  refine St.region rfl ?_
  refine Reg.q rfl rfl rfl (q_move rfl) ?_
  refine Reg.q rfl rfl rfl (q_nil rfl) ?_
  refine Reg.q rfl rfl rfl (q_fieldAddr fo_70_0 rfl rfl) ?_
  refine Reg.q rfl rfl rfl (q_load1 ac_22 rfl (hS.pt 1 rfl) rfl) ?_
  refine Reg.q rfl rfl rfl (q_lenS rfl se_22 rfl) ?_
  refine Reg.q rfl rfl rfl (q_move rfl) ?_
  refine Reg.done ?_
  refine St.keep [2, 0, 17, 18, 19] ?_
  show St _ _ _ [(19, _), (18, _), (17, _), (2, _), (0, _)] _ _ _
  refine St.block ?_
  replace hS : Stars (_ :: _ :: _ :: _ :: rs) _ := hS.top 3 rfl
  replace hS : Stars (_ :: _ :: _ :: _ :: rs) _ := hS.top 1 rfl
  replace hS : Stars (_ :: _ :: _ :: _ :: rs) _ := hS.top 3 rfl
  replace hS : Stars (_ :: _ :: _ :: _ :: rs) _ := hS.top 3 rfl
  refine St.loopw (Y := Nat × List (Int × Value) × List (Who × Value)) (fun y => [(19, .int .i64 (y.1 : Nat))]) [18, 17, 2, 0] (fun y τ => Stars (pt tb (.cells (traceC p es.length c sp ss.length sc mb nm) 70 (0, 0)) :: mapA encI mb y.2.1 :: mapA encWho b13 y.2.2 :: ro ρ :: rs) τ ∧ y.1 ≤ es.length ∧ BadIs y.2.1 (fun q => f q || (q == 3 && onceB es y.1)) ∧ SeenIs y.2.2 es y.1) (fun y => es.length - y.1) ((0, al, [])) rfl (⟨hS, Nat.zero_le _, hbad.congr (fun q => by simp [onceB]), fun _ => rfl⟩) ?_
  intro ⟨i, al, wl⟩ τ ⟨hS, hle, hbad, hseen⟩ back
  simp only [] at hS hle hbad hseen
  show St _ _ _ [(19, _), (18, _), (17, _), (2, _), (0, _)] _ _ _
  refine St.seq ?_
  refine St.region rfl ?_
  refine Reg.q rfl rfl rfl (q_lt rfl rfl) ?_
  refine Reg.done ?_
  refine St.keep [19, 18, 17, 2, 0, 20] ?_
  show St _ _ _ [(20, _), (19, _), (18, _), (17, _), (2, _), (0, _)] _ _ _
  refine St.seq ?_
  refine St.cond rfl (fun hc0 => ?_) (fun hc0 => ?_)
  · simp at hc0
    obtain ⟨e, hi⟩ : ∃ e, es[i]? = some e := ⟨_, List.getElem?_eq_getElem hc0⟩
    obtain ⟨lb, lo, cs, TT, fz, rfl, hb, hlt, hr⟩ := hT.row hi
    refine St.skip ?_
    refine St.seq ?_
    refine St.block ?_
    refine St.seq ?_
    refine St.region rfl ?_
    refine Reg.q rfl rfl rfl (q_indexAt se_22 rfl rfl rfl (by omega) rfl) ?_
    refine Reg.q rfl rfl rfl (q_loadA ac_39 rfl (hS.ro 3 rfl _ _ hb) (row_partN hr 0 19 (by decide) rfl rfl)) ?_
    refine Reg.x rfl rfl rfl (e_alloc zo_39 (fun b4 τ4 hb4 => ?_))
    replace hS : Stars (_ :: _ :: _ :: _ :: _ :: rs) _ := hS.fresh hb4
    refine Reg.no rfl rfl (e_store rfl rfl sz_39 rfl (hS.pt 0 rfl) (Nat.le_of_ble_eq_true rfl) rfl (storeN_row rfl) (fun τs3_3 hs3_3 hu3_3 => ?_))
    replace hS : Stars (_ :: _ :: _ :: _ :: _ :: rs) _ := (hS.top 0 rfl).ptU hu3_3 hs3_3
    refine Reg.done ?_
    refine St.keep [20, 19, 18, 17, 2, 0, 4] ?_
    show St _ _ _ [(4, _), (20, _), (19, _), (18, _), (17, _), (2, _), (0, _)] _ _ _
    replace hS : Stars (_ :: _ :: _ :: _ :: _ :: rs) _ := hS.top 4 rfl
    replace hS : Stars (_ :: _ :: _ :: _ :: _ :: rs) _ := hS.top 1 rfl
    obtain ⟨ρ4, hs4, h4, hS'⟩ := hS.roNew
    replace hS := hS'
    replace hS : Stars (_ :: _ :: _ :: _ :: rs) _ := hS.top 3 rfl
    replace hS : Stars (_ :: _ :: _ :: _ :: rs) _ := hS.top 3 rfl
    replace hS : Stars (_ :: _ :: _ :: _ :: rs) _ := hS.top 3 rfl
    refine St.seq ?_
    refine St.region rfl ?_
    refine Reg.q rfl rfl rfl (q_fieldAddr fo_39_0 rfl rfl) ?_
    refine Reg.q rfl rfl rfl (q_load1 ac_3 rfl (hS.ro 3 rfl _ _ h4) rfl) ?_
    refine Reg.q rfl rfl rfl (q_ieq rfl rfl) ?_
    refine Reg.done ?_
    refine St.keep [4, 20, 19, 18, 17, 2, 0, 25] ?_
    show St _ _ _ [(25, _), (4, _), (20, _), (19, _), (18, _), (17, _), (2, _), (0, _)] _ _ _
    refine St.cond rfl (fun hc1 => ?_) (fun hc1 => ?_)
    · skip
      refine St.seq ?_
      refine St.region rfl ?_
      refine Reg.q rfl rfl rfl (q_fieldAddr fo_39_1 rfl rfl) ?_
      refine Reg.q rfl rfl rfl (q_load1 ac_3 rfl (hS.ro 3 rfl _ _ h4) rfl) ?_
      refine Reg.q rfl rfl rfl (q_fieldAddr fo_39_2 rfl rfl) ?_
      refine Reg.q rfl rfl rfl (q_loadA ac_30 rfl (hS.ro 3 rfl _ _ h4) (rowN_row rfl)) ?_
      refine Reg.q rfl rfl rfl (q_fieldAddr fo_39_5 rfl rfl) ?_
      refine Reg.q rfl rfl rfl (q_fieldAddr fo_34_0 rfl rfl) ?_
      refine Reg.q rfl rfl rfl (q_load1 ac_3 rfl (hS.ro 3 rfl _ _ h4) rfl) ?_
      refine Reg.q rfl rfl rfl (q_fieldAddr fo_39_5 rfl rfl) ?_
      refine Reg.q rfl rfl rfl (q_fieldAddr fo_34_1 rfl rfl) ?_
      refine Reg.q rfl rfl rfl (q_load1 ac_31 rfl (hS.ro 3 rfl _ _ h4) rfl) ?_
      refine Reg.q rfl rfl rfl (q_build rfl zo_94 pl_94 (fillN_fill rfl)) ?_
      refine Reg.q rfl rfl rfl (q_build rfl zo_98 pl_98 (fillN_fill rfl)) ?_
      refine Reg.x rfl rfl rfl (e_alloc zo_98 (fun b5 τ5 hb5 => ?_))
      replace hS : Stars (_ :: _ :: _ :: _ :: _ :: rs) _ := hS.fresh hb5
      refine Reg.no rfl rfl (e_store rfl rfl sz_98 rfl (hS.pt 0 rfl) (Nat.le_of_ble_eq_true rfl) rfl (storeN_row rfl) (fun τs5_13 hs5_13 hu5_13 => ?_))
      replace hS : Stars (_ :: _ :: _ :: _ :: _ :: rs) _ := (hS.top 0 rfl).ptU hu5_13 hs5_13
      refine Reg.done ?_
      refine St.keep [25, 4, 20, 19, 18, 17, 2, 0, 5] ?_
      show St _ _ _ [(5, _), (25, _), (4, _), (20, _), (19, _), (18, _), (17, _), (2, _), (0, _)] _ _ _
      refine St.seq ?_
      refine St.region rfl ?_
      refine Reg.q rfl rfl rfl (q_move rfl) ?_
      refine Reg.q rfl rfl rfl (q_move rfl) ?_
      refine Reg.q rfl rfl rfl (q_loadA ac_98 rfl (hS.pt 0 rfl) (rowN_row rfl)) ?_
      refine Reg.q rfl rfl rfl (q_lookup Try.underlying96 key_98 zv_4 rfl (show _ = some (encWho (evWho e)) from rfl) (hS.map 3 rfl) (hseen (evWho e))) ?_
      replace hS : Stars (_ :: _ :: _ :: _ :: _ :: rs) _ := hS.top 2 rfl
      replace hS : Stars (_ :: _ :: _ :: _ :: _ :: rs) _ := hS.top 2 rfl
      refine Reg.x rfl rfl rfl (e_callF rfl rfl rfl ca_35 ((jbreaks_spec _ _ _ _ _ _ _ _ hS _ _).mono fun v42 τ42 h42 => ?_))
      replace hS := h42
      replace hbad := hbad.brk 3 (seenB es i (evWho e))
      refine Reg.done ?_
      refine St.keep [5, 25, 4, 20, 19, 18, 17, 2, 0] ?_
      show St _ _ _ [(5, _), (25, _), (4, _), (20, _), (19, _), (18, _), (17, _), (2, _), (0, _)] _ _ _
      refine St.region rfl ?_
      refine Reg.q rfl rfl rfl (q_move rfl) ?_
      refine Reg.q rfl rfl rfl (q_loadA ac_98 rfl (hS.pt 2 rfl) (rowN_row rfl)) ?_
      refine Reg.no rfl rfl (e_mapUpdate Try.underlying96 key_98 rfl (show _ = some (encWho (evWho e)) from rfl) rfl (hS.map 3 rfl) (fun τu7_2 hmu7_2 huu7_2 => ?_))
      replace hS : Stars (_ :: _ :: _ :: _ :: _ :: rs) _ := (hS.top 3 rfl).mapU huu7_2 hmu7_2
      refine Reg.done ?_
      refine St.keep [5, 25, 4, 20, 19, 18, 17, 2, 0] ?_
      show St _ _ _ [(5, _), (25, _), (4, _), (20, _), (19, _), (18, _), (17, _), (2, _), (0, _)] _ _ _
      replace hS : Stars (_ :: _ :: _ :: _ :: _ :: rs) _ := hS.top 3 rfl
      replace hS := hS.drop
      refine St.inBlock ?_
      refine St.region rfl ?_
      refine Reg.q rfl rfl rfl (q_add rfl rfl (inc64 (by omega))) ?_
      refine Reg.q rfl rfl rfl (q_move rfl) ?_
      refine Reg.done ?_
      refine St.keep [5, 25, 4, 20, 19, 18, 17, 2, 0] ?_
      show St _ _ _ [(19, _), (5, _), (25, _), (4, _), (20, _), (19, _), (18, _), (17, _), (2, _), (0, _)] _ _ _
      replace hS : Stars (_ :: _ :: _ :: _ :: rs) _ := hS.top 3 rfl
      replace hS : Stars (ro ρ :: _) _ := hS.imp fun h hx => hs4.trans hx
      replace hS : Stars (_ :: _ :: _ :: _ :: rs) _ := hS.top 1 rfl
      replace hS : Stars (_ :: _ :: _ :: _ :: rs) _ := hS.top 3 rfl
      replace hS : Stars (_ :: _ :: _ :: _ :: rs) _ := hS.top 3 rfl
      
      refine St.conv (SubL.list (by rfl)) (Sub.rfl' _) (back ((i + 1, if seenB es i (evWho e) then put al 3 (.bool true) else al, put wl (evWho e) (.bool true))) _ ?_ ?_)
      · exact ⟨hS, by simp only []; omega, hbad.congr fun q => by simp only []; rw [onceB_succ hi, hc1]; cases (q == 3) <;> simp [Bool.or_assoc], hseen.put hi hc1⟩
      · simp only []; omega
    · skip
      refine St.skip ?_
      refine St.inBlock ?_
      refine St.region rfl ?_
      refine Reg.q rfl rfl rfl (q_add rfl rfl (inc64 (by omega))) ?_
      refine Reg.q rfl rfl rfl (q_move rfl) ?_
      refine Reg.done ?_
      refine St.keep [25, 4, 20, 19, 18, 17, 2, 0] ?_
      show St _ _ _ [(19, _), (25, _), (4, _), (20, _), (19, _), (18, _), (17, _), (2, _), (0, _)] _ _ _
      replace hS : Stars (_ :: _ :: _ :: _ :: rs) _ := hS.top 3 rfl
      replace hS : Stars (ro ρ :: _) _ := hS.imp fun h hx => hs4.trans hx
      replace hS : Stars (_ :: _ :: _ :: _ :: rs) _ := hS.top 3 rfl
      replace hS : Stars (_ :: _ :: _ :: _ :: rs) _ := hS.top 3 rfl
      replace hS : Stars (_ :: _ :: _ :: _ :: rs) _ := hS.top 3 rfl
      
      refine St.conv (SubL.list (by rfl)) (Sub.rfl' _) (back ((i + 1, al, wl)) _ ?_ ?_)
      · exact ⟨hS, by simp only []; omega, hbad.congr fun q => by simp only []; rw [onceB_succ hi, hc1]; simp, hseen.skip hi hc1⟩
      · simp only []; omega
  · simp at hc0
    obtain rfl : i = es.length := by omega
    replace hS : Stars (_ :: _ :: _ :: _ :: rs) _ := hS.top 2 rfl
    replace hS := hS.drop
    refine St.exit rfl ?_
    refine St.seq ?_
    refine St.region rfl ?_
    refine Reg.q rfl rfl rfl (q_move rfl) ?_
    refine Reg.q rfl rfl rfl (q_nil rfl) ?_
    refine Reg.q rfl rfl rfl (q_fieldAddr fo_70_1 rfl rfl) ?_
    refine Reg.q rfl rfl rfl (q_load1 ac_68 rfl (hS.pt 0 rfl) rfl) ?_
    refine Reg.q rfl rfl rfl (q_lenS rfl se_68 rfl) ?_
    refine Reg.q rfl rfl rfl (q_move rfl) ?_
    refine Reg.done ?_
    refine St.keep [20, 19, 18, 17, 2, 0, 49, 50, 51] ?_
    show St _ _ _ [(51, _), (50, _), (49, _), (20, _), (19, _), (18, _), (17, _), (2, _), (0, _)] _ _ _
    refine St.block ?_
    refine St.loopw (Y := Nat × List (Int × Value)) (fun y => [(51, .int .i64 (y.1 : Nat))]) [50, 49, 20, 19, 18, 17, 2, 0] (fun y τ => Stars (pt tb (.cells (traceC p es.length c sp ss.length sc mb nm) 70 (0, 0)) :: mapA encI mb y.2 :: ro ρ :: rs) τ ∧ y.1 ≤ ss.length ∧ BadIs y.2 (fun q => (f q || (q == 3 && (onceB es es.length || once3 ss y.1))) || (q == 4 && once4 ss y.1))) (fun y => ss.length - y.1) ((0, al)) rfl (⟨hS, Nat.zero_le _, hbad.congr (fun q => by simp [once3, once4])⟩) ?_
    intro ⟨i, al⟩ τ ⟨hS, hle, hbad⟩ back
    simp only [] at hS hle hbad
    show St _ _ _ [(51, _), (50, _), (49, _), (20, _), (19, _), (18, _), (17, _), (2, _), (0, _)] _ _ _
    refine St.seq ?_
    refine St.region rfl ?_
    refine Reg.q rfl rfl rfl (q_lt rfl rfl) ?_
    refine Reg.done ?_
    refine St.keep [51, 50, 49, 20, 19, 18, 17, 2, 0, 52] ?_
    show St _ _ _ [(52, _), (51, _), (50, _), (49, _), (20, _), (19, _), (18, _), (17, _), (2, _), (0, _)] _ _ _
    refine St.seq ?_
    refine St.cond rfl (fun hc2 => ?_) (fun hc2 => ?_)
    · simp at hc2
      have hfew := hA.few
      obtain ⟨b, s, gp, gc, up, uc, b1, o1, cs1, T1, f1, hs, hsm, hst, hrd, hsp, hb1, hr1⟩ := hA.get hc2
      have hgl := hA.few.2 s hsm
      refine St.skip ?_
      refine St.seq ?_
      refine St.block ?_
      refine St.seq ?_
      refine St.region rfl ?_
      refine Reg.q rfl rfl rfl (q_indexAt se_68 rfl hsp rfl (by omega) rfl) ?_
      refine Reg.q rfl rfl rfl (q_load1 ac_90 rfl (hS.ro 2 rfl _ _ hb1) (row_cell hr1 0 rfl)) ?_
      refine Reg.q rfl rfl rfl (q_assign rfl) ?_
      refine Reg.done ?_
      refine St.keep [52, 51, 50, 49, 20, 19, 18, 17, 2, 0, 7] ?_
      show St _ _ _ [(7, _), (52, _), (51, _), (50, _), (49, _), (20, _), (19, _), (18, _), (17, _), (2, _), (0, _)] _ _ _
      refine St.seq ?_
      refine St.region rfl ?_
      refine Reg.x rfl rfl rfl (e_makeMap (fun b55 τ55 hb55 => ?_))
      replace hS : Stars (_ :: _ :: _ :: _ :: rs) _ := hS.mapNew (enc := encI) hb55
      refine Reg.q rfl rfl rfl (q_assign rfl) ?_
      refine Reg.done ?_
      refine St.keep [7, 52, 51, 50, 49, 20, 19, 18, 17, 2, 0, 8] ?_
      show St _ _ _ [(8, _), (7, _), (52, _), (51, _), (50, _), (49, _), (20, _), (19, _), (18, _), (17, _), (2, _), (0, _)] _ _ _
      refine St.seq ?_
      refine St.region rfl ?_
      refine Reg.q rfl rfl rfl (q_move rfl) ?_
      refine Reg.q rfl rfl rfl (q_nil rfl) ?_
      refine Reg.q rfl rfl rfl (q_fieldAddr fo_101_3 rfl rfl) ?_
      refine Reg.q rfl rfl rfl (q_load1 ac_99 rfl (hS.ro 3 rfl _ _ hst) rfl) ?_
      refine Reg.q rfl rfl rfl (q_lenS rfl se_99 rfl) ?_
      refine Reg.q rfl rfl rfl (q_move rfl) ?_
      refine Reg.done ?_
      refine St.keep [8, 7, 52, 51, 50, 49, 20, 19, 18, 17, 2, 0, 59, 60, 61] ?_
      show St _ _ _ [(61, _), (60, _), (59, _), (8, _), (7, _), (52, _), (51, _), (50, _), (49, _), (20, _), (19, _), (18, _), (17, _), (2, _), (0, _)] _ _ _
      refine St.block ?_
      replace hS : Stars (_ :: _ :: _ :: _ :: rs) _ := hS.top 3 rfl
      replace hS : Stars (_ :: _ :: _ :: _ :: rs) _ := hS.top 1 rfl
      replace hS : Stars (_ :: _ :: _ :: _ :: rs) _ := hS.top 3 rfl
      replace hS : Stars (_ :: _ :: _ :: _ :: rs) _ := hS.top 3 rfl
      refine St.loopw (Y := Nat × List (Int × Value) × List (Int × Value)) (fun y => [(61, .int .i64 (y.1 : Nat))]) [60, 59, 8, 7, 52, 51, 50, 49, 20, 19, 18, 17, 2, 0] (fun y τ => Stars (pt tb (.cells (traceC p es.length c sp ss.length sc mb nm) 70 (0, 0)) :: mapA encI mb y.2.1 :: mapA encI b55 y.2.2 :: ro ρ :: rs) τ ∧ y.1 ≤ s.gots.length ∧ BadIs y.2.1 (fun q => (((f q || (q == 3 && (onceB es es.length || once3 ss i))) || (q == 4 && once4 ss i)) || (q == 3 && ordB s.gots y.1)) || (q == 4 && depsB s.gots y.1)) ∧ CntIs y.2.2 (s.gots.take y.1)) (fun y => s.gots.length - y.1) ((0, al, [])) rfl (⟨hS, Nat.zero_le _, hbad.congr (fun q => by simp [ordB, depsB]), fun _ => rfl⟩) ?_
      intro ⟨j, al, cl⟩ τ ⟨hS, hj, hbad, hcnt⟩ back2
      simp only [] at hS hj hbad hcnt
      show St _ _ _ [(61, _), (60, _), (59, _), (8, _), (7, _), (52, _), (51, _), (50, _), (49, _), (20, _), (19, _), (18, _), (17, _), (2, _), (0, _)] _ _ _
      refine St.seq ?_
      refine St.region rfl ?_
      refine Reg.q rfl rfl rfl (q_lt rfl rfl) ?_
      refine Reg.done ?_
      refine St.keep [61, 60, 59, 8, 7, 52, 51, 50, 49, 20, 19, 18, 17, 2, 0, 62] ?_
      show St _ _ _ [(62, _), (61, _), (60, _), (59, _), (8, _), (7, _), (52, _), (51, _), (50, _), (49, _), (20, _), (19, _), (18, _), (17, _), (2, _), (0, _)] _ _ _
      refine St.seq ?_
      refine St.cond rfl (fun hc3 => ?_) (fun hc3 => ?_)
      · simp at hc3
        obtain ⟨g, hg⟩ : ∃ g, s.gots[j]? = some g := ⟨_, List.getElem?_eq_getElem hc3⟩
        have hgok := hA.ok hT hsm (List.mem_of_getElem? hg)
        have hgd := hgok.2
        obtain ⟨bg, og, csg, Tg, fg, hgp, hbg, hlg, hrg⟩ := Rd.row Got.cells_len (by decide) hrd hg
        have hcb := cntF_bd (s.gots.take j) g.m.frm
        have hcl := List.length_take_le j s.gots
        refine St.skip ?_
        refine St.seq ?_
        refine St.block ?_
        refine St.seq ?_
        refine St.region rfl ?_
        refine Reg.q rfl rfl rfl (q_move rfl) ?_
        refine Reg.q rfl rfl rfl (q_indexAt se_99 rfl hgp rfl (by omega) rfl) ?_
        refine Reg.q rfl rfl rfl (q_loadA ac_103 rfl (hS.ro 3 rfl _ _ hbg) (row_partN hrg 0 8 (by decide) rfl rfl)) ?_
        refine Reg.x rfl rfl rfl (e_alloc zo_103 (fun b10 τ10 hb10 => ?_))
        replace hS : Stars (_ :: _ :: _ :: _ :: _ :: rs) _ := hS.fresh hb10
        refine Reg.q rfl rfl rfl (q_assign rfl) ?_
        refine Reg.no rfl rfl (e_store rfl rfl sz_103 rfl (hS.pt 0 rfl) (Nat.le_of_ble_eq_true rfl) rfl (storeN_row rfl) (fun τs15_5 hs15_5 hu15_5 => ?_))
        replace hS : Stars (_ :: _ :: _ :: _ :: _ :: rs) _ := (hS.top 0 rfl).ptU hu15_5 hs15_5
        refine Reg.done ?_
        refine St.keep [62, 61, 60, 59, 8, 7, 52, 51, 50, 49, 20, 19, 18, 17, 2, 0, 10, 9] ?_
        show St _ _ _ [(9, _), (10, _), (62, _), (61, _), (60, _), (59, _), (8, _), (7, _), (52, _), (51, _), (50, _), (49, _), (20, _), (19, _), (18, _), (17, _), (2, _), (0, _)] _ _ _
        replace hS : Stars (_ :: _ :: _ :: _ :: _ :: rs) _ := hS.top 4 rfl
        replace hS : Stars (_ :: _ :: _ :: _ :: _ :: rs) _ := hS.top 1 rfl
        obtain ⟨ρ10, hs10, h10, hS'⟩ := hS.roNew
        replace hS := hS'
        replace hbg := hs10 _ _ hbg
        replace hS : Stars (_ :: _ :: _ :: _ :: rs) _ := hS.top 3 rfl
        replace hS : Stars (_ :: _ :: _ :: _ :: rs) _ := hS.top 3 rfl
        replace hS : Stars (_ :: _ :: _ :: _ :: rs) _ := hS.top 3 rfl
        refine St.seq ?_
        refine St.draw0 [16, 17, 20] [(0, .w), (1, .w), (2, .w), (3, .w), (4, .w), (5, .w), (6, .w), (7, .r), (8, .w), (9, .w), (10, .w), (11, .w), (12, .r), (14, .w), (15, .r), (13, .x), (16, .x), (17, .x), (18, .w), (19, .w), (20, .x)] mixed (by kernel_rfl) rfl ?_
        refine Dr.w rfl rfl rfl rfl (q_move rfl) ?_
        refine Dr.w rfl rfl rfl rfl (q_move rfl) ?_
        refine Dr.w rfl rfl rfl rfl (q_gt rfl rfl) ?_
        refine Dr.w rfl rfl rfl rfl (q_move rfl) ?_
        refine Dr.joinv 85 (.bool (ordAt s.gots j)) 16 [9, 10, 62, 61, 60, 59, 8, 7, 52, 51, 50, 49, 20, 19, 18, 17, 2, 0, 66, 67, 68] (fun hk16_19 => ?_) ?_
        · skip
          refine Dr.split (d := 69) rfl (fun hg69 => ?_) (fun hg69 => ?_)
          · have hj0 : 0 < j := by simpa using hg69
            obtain ⟨gf, hgf⟩ : ∃ gf, s.gots[j - 1]? = some gf := ⟨_, List.getElem?_eq_getElem (by omega)⟩
            obtain ⟨bf, of_, csf, Tf, ff, hfp, hbf, hlf, hrf⟩ := Rd.row Got.cells_len (by decide) hrd hgf
            replace hbf := hs10 _ _ hbf
            refine Dr.w rfl rfl rfl rfl (q_move rfl) ?_
            refine Dr.w rfl rfl rfl rfl (q_nil rfl) ?_
            refine Dr.w rfl rfl rfl rfl (q_fieldAddr fo_101_3 rfl rfl) ?_
            refine Dr.r rfl rfl rfl rfl (Sub.rfl' _) (q_load1 ac_99 rfl (hS.ro 3 rfl _ _ (hs10 _ _ hst)) rfl) ?_
            refine Dr.w rfl rfl rfl rfl (q_move rfl) ?_
            refine Dr.w rfl rfl rfl rfl (q_sub rfl rfl (show _ = ((j - 1 : Nat) : Int) from (wrap64 (by omega)).trans (by omega))) ?_
            refine Dr.w rfl rfl rfl rfl (q_indexAt se_99 rfl hfp rfl (by omega) rfl) ?_
            refine Dr.w rfl rfl rfl rfl (q_fieldAddr fo_103_1 rfl rfl) ?_
            refine Dr.r rfl rfl rfl rfl (Sub.rfl' _) (q_loadA ac_34 rfl (hS.ro 3 rfl _ _ hbf) (row_partN hrf 1 6 (by decide) rfl rfl)) ?_
            refine Dr.w rfl rfl rfl rfl (q_fieldAddr fo_103_1 rfl rfl) ?_
            refine Dr.r rfl rfl rfl rfl (Sub.rfl' _) (q_loadA ac_34 rfl (hS.ro 3 rfl _ _ h10) (rowN_row rfl)) ?_
            refine Dr.x rfl rfl rfl rfl (e_callF rfl rfl rfl ca_29 ((of_spec _ _ _ _ _ _ _).mono fun v79 τ79 h79 => ?_))
            obtain ⟨rfl, rfl⟩ := h79
            refine ⟨.inr (Sub.rfl' _), ?_⟩
            refine Dr.x rfl rfl rfl rfl (e_callF rfl rfl rfl ca_29 ((of_spec _ _ _ _ _ _ _).mono fun v82 τ82 h82 => ?_))
            obtain ⟨rfl, rfl⟩ := h82
            refine ⟨.inl rfl, ?_⟩
            refine Dr.x rfl rfl rfl rfl (e_callF rfl rfl rfl ca_28 ((kcmp_spec _ _ _ _ _).mono fun v83 τ83 h83 => ?_))
            obtain ⟨rfl, rfl⟩ := h83
            refine ⟨.inl rfl, ?_⟩
            refine Dr.w rfl rfl rfl rfl (q_ge rfl rfl) ?_
            refine Dr.w rfl rfl rfl rfl (q_pickT rfl rfl) ?_
            exact Dr.meet 17 [9, 10, 62, 61, 60, 59, 8, 7, 52, 51, 50, 49, 20, 19, 18, 17, 2, 0, 66, 67, 68] hk16_19 rfl (by first | exact ordAt_zero _ | exact (ordAt_zero _).symm | exact ordAt_some hg hgf hj0 | exact (ordAt_some hg hgf hj0).symm) rfl rfl
          · have hj0 : ¬ 0 < j := by simpa using hg69
            obtain rfl : j = 0 := by omega
            refine Dr.skip rfl rfl rfl rfl ?_
            refine Dr.skip rfl rfl rfl rfl ?_
            refine Dr.skip rfl rfl rfl rfl ?_
            refine Dr.skip rfl rfl rfl rfl ?_
            refine Dr.skip rfl rfl rfl rfl ?_
            refine Dr.skip rfl rfl rfl rfl ?_
            refine Dr.skip rfl rfl rfl rfl ?_
            refine Dr.skip rfl rfl rfl rfl ?_
            refine Dr.skip rfl rfl rfl rfl ?_
            refine Dr.skip rfl rfl rfl rfl ?_
            refine Dr.skip rfl rfl rfl rfl ?_
            refine Dr.skip rfl rfl rfl rfl ?_
            refine Dr.skip rfl rfl rfl rfl ?_
            refine Dr.skip rfl rfl rfl rfl ?_
            refine Dr.skip rfl rfl rfl rfl ?_
            refine Dr.w rfl rfl rfl rfl (q_pickF rfl rfl) ?_
            exact Dr.meet 17 [9, 10, 62, 61, 60, 59, 8, 7, 52, 51, 50, 49, 20, 19, 18, 17, 2, 0, 66, 67, 68] hk16_19 rfl (by first | exact ordAt_zero _ | exact (ordAt_zero _).symm | exact ordAt_some hg hgf hj0 | exact (ordAt_some hg hgf hj0).symm) rfl rfl
        · skip
          refine Dr.x rfl rfl rfl rfl (e_callF rfl rfl rfl ca_35 ((jbreaks_spec _ _ _ _ _ _ _ _ hS _ _).mono fun v86 τ86 h86 => ?_))
          replace hS := h86
          replace hbad := hbad.brk 3 (ordAt s.gots j)
          refine ⟨.inl rfl, ?_⟩
          refine Dr.done ?_
          refine St.keep [9, 10, 62, 61, 60, 59, 8, 7, 52, 51, 50, 49, 20, 19, 18, 17, 2, 0] ?_
          show St _ _ _ [(9, _), (10, _), (62, _), (61, _), (60, _), (59, _), (8, _), (7, _), (52, _), (51, _), (50, _), (49, _), (20, _), (19, _), (18, _), (17, _), (2, _), (0, _)] _ _ _
          refine St.seq ?_
          refine St.seq ?_
          refine St.region rfl ?_
          refine Reg.q rfl rfl rfl (q_fieldAddr fo_103_1 rfl rfl) ?_
          refine Reg.q rfl rfl rfl (q_fieldAddr fo_34_4 rfl rfl) ?_
          refine Reg.q rfl rfl rfl (q_load1 ac_32 rfl (hS.ro 3 rfl _ _ h10) rfl) ?_
          refine Reg.q rfl rfl rfl (q_lenS rfl se_32 rfl) ?_
          refine Reg.q rfl rfl rfl (q_move rfl) ?_
          refine Reg.done ?_
          refine St.keep [9, 10, 62, 61, 60, 59, 8, 7, 52, 51, 50, 49, 20, 19, 18, 17, 2, 0, 89, 90, 91] ?_
          show St _ _ _ [(91, _), (90, _), (89, _), (9, _), (10, _), (62, _), (61, _), (60, _), (59, _), (8, _), (7, _), (52, _), (51, _), (50, _), (49, _), (20, _), (19, _), (18, _), (17, _), (2, _), (0, _)] _ _ _
          refine St.block ?_
          refine St.loopw (Y := Nat × List (Int × Value)) (fun y => [(91, .int .i64 (y.1 : Nat))]) [90, 89, 9, 10, 62, 61, 60, 59, 8, 7, 52, 51, 50, 49, 20, 19, 18, 17, 2, 0] (fun y τ => Stars (pt tb (.cells (traceC p es.length c sp ss.length sc mb nm) 70 (0, 0)) :: mapA encI mb y.2 :: mapA encI b55 cl :: ro ρ10 :: rs) τ ∧ y.1 ≤ g.m.deps.length ∧ BadIs y.2 (fun q => (((((f q || (q == 3 && (onceB es es.length || once3 ss i))) || (q == 4 && once4 ss i)) || (q == 3 && ordB s.gots j)) || (q == 4 && depsB s.gots j)) || (q == 3 && ordAt s.gots j)) || (q == 4 && depB g (s.gots.take j) y.1))) (fun y => g.m.deps.length - y.1) ((0, _)) rfl (⟨hS, Nat.zero_le _, hbad.congr (fun q => by simp [depB])⟩) ?_
          intro ⟨k, al⟩ τ ⟨hS, hk, hbad⟩ back3
          simp only [] at hS hk hbad
          show St _ _ _ [(91, _), (90, _), (89, _), (9, _), (10, _), (62, _), (61, _), (60, _), (59, _), (8, _), (7, _), (52, _), (51, _), (50, _), (49, _), (20, _), (19, _), (18, _), (17, _), (2, _), (0, _)] _ _ _
          refine St.seq ?_
          refine St.region rfl ?_
          refine Reg.q rfl rfl rfl (q_lt rfl rfl) ?_
          refine Reg.done ?_
          refine St.keep [91, 90, 89, 9, 10, 62, 61, 60, 59, 8, 7, 52, 51, 50, 49, 20, 19, 18, 17, 2, 0, 92] ?_
          show St _ _ _ [(92, _), (91, _), (90, _), (89, _), (9, _), (10, _), (62, _), (61, _), (60, _), (59, _), (8, _), (7, _), (52, _), (51, _), (50, _), (49, _), (20, _), (19, _), (18, _), (17, _), (2, _), (0, _)] _ _ _
          refine St.seq ?_
          refine St.cond rfl (fun hc4 => ?_) (fun hc4 => ?_)
          · simp at hc4
            obtain ⟨n, hn⟩ : ∃ n, g.m.deps[k]? = some n := ⟨_, List.getElem?_eq_getElem hc4⟩
            obtain ⟨bd, od, csd, Td, fd, hdp, hbd, hld, hrd3⟩ := Rd.row u32_len (by decide) hgok.1 hn
            replace hbd := hs10 _ _ hbd
            refine St.skip ?_
            refine St.seq ?_
            refine St.block ?_
            refine St.seq ?_
            refine St.region rfl ?_
            refine Reg.q rfl rfl rfl (q_move rfl) ?_
            refine Reg.q rfl rfl rfl (q_indexAt se_32 rfl hdp rfl (by omega) rfl) ?_
            refine Reg.q rfl rfl rfl (q_load1 ac_31 rfl (hS.ro 3 rfl _ _ hbd) (row_cell hrd3 0 rfl)) ?_
            refine Reg.q rfl rfl rfl (q_assign rfl) ?_
            refine Reg.q rfl rfl rfl (q_assign rfl) ?_
            refine Reg.done ?_
            refine St.keep [92, 91, 90, 89, 9, 10, 62, 61, 60, 59, 8, 7, 52, 51, 50, 49, 20, 19, 18, 17, 2, 0, 11, 12] ?_
            show St _ _ _ [(12, _), (11, _), (92, _), (91, _), (90, _), (89, _), (9, _), (10, _), (62, _), (61, _), (60, _), (59, _), (8, _), (7, _), (52, _), (51, _), (50, _), (49, _), (20, _), (19, _), (18, _), (17, _), (2, _), (0, _)] _ _ _
            refine St.region rfl ?_
            refine Reg.q rfl rfl rfl (q_move rfl) ?_
            refine Reg.q rfl rfl rfl (q_move rfl) ?_
            refine Reg.q rfl rfl rfl (q_conv ti_31_3 rfl rfl) ?_
            refine Reg.q rfl rfl rfl (q_move rfl) ?_
            refine Reg.q rfl rfl rfl (q_move rfl) ?_
            refine Reg.q rfl rfl rfl (q_lookup Try.underlying62 key_3 zv_3 rfl rfl (hS.map 2 rfl) (hcnt k)) ?_
            refine Reg.q rfl rfl rfl (q_gt rfl rfl) ?_
            refine Reg.x rfl rfl rfl (e_callF rfl rfl rfl ca_35 ((jbreaks_spec _ _ _ _ _ _ _ _ hS _ _).mono fun v103 τ103 h103 => ?_))
            replace hS := h103
            replace hbad := hbad.brk 4 (decide (IntKind.i64.wrap n > cntF (s.gots.take j) k))
            refine Reg.done ?_
            refine St.keep [12, 11, 92, 91, 90, 89, 9, 10, 62, 61, 60, 59, 8, 7, 52, 51, 50, 49, 20, 19, 18, 17, 2, 0] ?_
            show St _ _ _ [(12, _), (11, _), (92, _), (91, _), (90, _), (89, _), (9, _), (10, _), (62, _), (61, _), (60, _), (59, _), (8, _), (7, _), (52, _), (51, _), (50, _), (49, _), (20, _), (19, _), (18, _), (17, _), (2, _), (0, _)] _ _ _
            refine St.inBlock ?_
            refine St.region rfl ?_
            refine Reg.q rfl rfl rfl (q_add rfl rfl (inc64 (by omega))) ?_
            refine Reg.q rfl rfl rfl (q_move rfl) ?_
            refine Reg.done ?_
            refine St.keep [12, 11, 92, 91, 90, 89, 9, 10, 62, 61, 60, 59, 8, 7, 52, 51, 50, 49, 20, 19, 18, 17, 2, 0] ?_
            show St _ _ _ [(91, _), (12, _), (11, _), (92, _), (91, _), (90, _), (89, _), (9, _), (10, _), (62, _), (61, _), (60, _), (59, _), (8, _), (7, _), (52, _), (51, _), (50, _), (49, _), (20, _), (19, _), (18, _), (17, _), (2, _), (0, _)] _ _ _
            refine St.conv (SubL.list (by rfl)) (Sub.rfl' _) (back3 ((k + 1, if decide (IntKind.i64.wrap n > cntF (s.gots.take j) k) then put al 4 (.bool true) else al)) _ ?_ ?_)
            · exact ⟨hS, by simp only []; omega, hbad.congr fun q => by simp only []; rw [depB_succ hn]; cases (q == 4) <;> simp [Bool.or_assoc]⟩
            · simp only []; omega
          · simp at hc4
            obtain rfl : k = g.m.deps.length := by omega
            refine St.exit rfl ?_
            refine St.region rfl ?_
            refine Reg.q rfl rfl rfl (q_move rfl) ?_
            refine Reg.q rfl rfl rfl (q_fieldAddr fo_103_1 rfl rfl) ?_
            refine Reg.q rfl rfl rfl (q_fieldAddr fo_34_0 rfl rfl) ?_
            refine Reg.q rfl rfl rfl (q_load1 ac_3 rfl (hS.ro 3 rfl _ _ h10) rfl) ?_
            refine Reg.q rfl rfl rfl (q_lookup Try.underlying62 key_3 zv_3 rfl rfl (hS.map 2 rfl) (hcnt g.m.frm)) ?_
            refine Reg.q rfl rfl rfl (q_add rfl rfl (wrap64 (by omega))) ?_
            refine Reg.no rfl rfl (e_mapUpdate Try.underlying62 key_3 rfl rfl rfl (hS.map 2 rfl) (fun τu22_6 hmu22_6 huu22_6 => ?_))
            replace hS : Stars (_ :: _ :: _ :: _ :: rs) _ := (hS.top 2 rfl).mapU huu22_6 hmu22_6
            refine Reg.done ?_
            refine St.keep [92, 91, 90, 89, 9, 10, 62, 61, 60, 59, 8, 7, 52, 51, 50, 49, 20, 19, 18, 17, 2, 0] ?_
            show St _ _ _ [(92, _), (91, _), (90, _), (89, _), (9, _), (10, _), (62, _), (61, _), (60, _), (59, _), (8, _), (7, _), (52, _), (51, _), (50, _), (49, _), (20, _), (19, _), (18, _), (17, _), (2, _), (0, _)] _ _ _
            refine St.inBlock ?_
            refine St.region rfl ?_
            refine Reg.q rfl rfl rfl (q_add rfl rfl (inc64 (by omega))) ?_
            refine Reg.q rfl rfl rfl (q_move rfl) ?_
            refine Reg.done ?_
            refine St.keep [92, 91, 90, 89, 9, 10, 62, 61, 60, 59, 8, 7, 52, 51, 50, 49, 20, 19, 18, 17, 2, 0] ?_
            show St _ _ _ [(61, _), (92, _), (91, _), (90, _), (89, _), (9, _), (10, _), (62, _), (61, _), (60, _), (59, _), (8, _), (7, _), (52, _), (51, _), (50, _), (49, _), (20, _), (19, _), (18, _), (17, _), (2, _), (0, _)] _ _ _
            replace hS : Stars (_ :: _ :: _ :: _ :: rs) _ := hS.top 3 rfl
            replace hS : Stars (ro ρ :: _) _ := hS.imp fun h hx => hs10.trans hx
            replace hS : Stars (_ :: _ :: _ :: _ :: rs) _ := hS.top 1 rfl
            replace hS : Stars (_ :: _ :: _ :: _ :: rs) _ := hS.top 3 rfl
            replace hS : Stars (_ :: _ :: _ :: _ :: rs) _ := hS.top 3 rfl
            refine St.conv (SubL.list (by rfl)) (Sub.rfl' _) (back2 ((j + 1, al, put cl g.m.frm (.int .i64 (cntF (s.gots.take j) g.m.frm + 1)))) _ ?_ ?_)
            · exact ⟨hS, by simp only []; omega, hbad.congr fun q => by simp only []; rw [ordB_succ, depsB_succ hg]; cases (q == 3) <;> cases (q == 4) <;> simp [Bool.or_assoc, Bool.or_comm, Bool.or_left_comm], hcnt.put hg⟩
            · simp only []; omega
      · simp at hc3
        obtain rfl : j = s.gots.length := by omega
        replace hS : Stars (_ :: _ :: _ :: _ :: rs) _ := hS.top 2 rfl
        replace hS := hS.drop
        refine St.exit rfl ?_
        refine St.inBlock ?_
        refine St.region rfl ?_
        refine Reg.q rfl rfl rfl (q_add rfl rfl (inc64 (by omega))) ?_
        refine Reg.q rfl rfl rfl (q_move rfl) ?_
        refine Reg.done ?_
        refine St.keep [62, 61, 60, 59, 8, 7, 52, 51, 50, 49, 20, 19, 18, 17, 2, 0] ?_
        show St _ _ _ [(51, _), (62, _), (61, _), (60, _), (59, _), (8, _), (7, _), (52, _), (51, _), (50, _), (49, _), (20, _), (19, _), (18, _), (17, _), (2, _), (0, _)] _ _ _
        refine St.conv (SubL.list (by rfl)) (Sub.rfl' _) (back ((i + 1, al)) _ ?_ ?_)
        · exact ⟨hS, by simp only []; omega, hbad.congr fun q => by simp only []; rw [once3_succ hs, once4_succ hs]; cases (q == 3) <;> cases (q == 4) <;> simp [Bool.or_assoc, Bool.or_comm, Bool.or_left_comm]⟩
        · simp only []; omega
    · simp at hc2
      obtain rfl : i = ss.length := by omega
      refine St.exit rfl ?_
      refine St.fin Try.func20 .nil (Sub.rfl' _) ?_
      exact ⟨_, hS, hbad⟩
end Go.Proofs.Ytdgdbnkhmdncdaa
