/- The judge: how its stays lie in memory; the least of its functions. -/
import Derived.Test.YtdgdbnkhmdncdaaH4
import Derived.Test.YtdgdbnkhmdncdaaJd
set_option linter.unusedSectionVars false
set_option linter.unusedSimpArgs false
set_option linter.unusedVariables false
namespace Go.Proofs.Ytdgdbnkhmdncdaa
open Go.Gw Go.Cs
variable [Env]
namespace FJ1
theorem ac_3 : aggCells Try.prog 3 = some none := by kernel_rfl
theorem ac_50 : aggCells Try.prog 50 = some none := by kernel_rfl
theorem fo_70_2 : fieldOff Try.prog 70 2 = some 2 := by kernel_rfl
theorem fo_70_3 : fieldOff Try.prog 70 3 = some 3 := by kernel_rfl
theorem sz_3 : szOf Try.prog 3 = some 1 := by kernel_rfl
end FJ1
open FJ1

/-- A stay in memory. -/
def stayA (p : Option Addr) (bs : List Nat) (b : Nat) (s : JSt) : Asr := fun h => ∃ x : Option Addr × Nat × Option Addr × Nat, Stars [pt b (.cells (stayC p bs s x.1 x.2.1 x.2.2.1 x.2.2.2) 101 (0, 0)), ownA 103 8 x.1 s.gots.length x.2.1 (s.gots.flatMap Got.cells), ownA 34 6 x.2.2.1 s.ups.length x.2.2.2 (s.ups.flatMap Msg.cells)] h
theorem mono_stay (p : Option Addr) (bs : List Nat) (b : Nat) (s : JSt) : Mono (stayA p bs b s) := fun σ τ hs h => by
  obtain ⟨x, h⟩ := h
  exact ⟨x, h.sub hs⟩
def staysA (p : Option Addr) (bs : List Nat) (ss : List JSt) : Asr := Stars (List.zipWith (stayA p bs) bs ss)
def holeA (p : Option Addr) (bs : List Nat) (ss : List JSt) (i : Nat) : Asr := Stars ((List.zipWith (stayA p bs) bs ss).set i emp)
theorem stay_at {rs : List Asr} {σ : Heap} {p : Option Addr} {bs : List Nat} {b k : Nat} {s : JSt} (h : Stars rs σ) (hk : rs[k]? = some (stayA p bs b s)) :
    ∃ gp gc up uc, σ b = some (.cells (stayC p bs s gp gc up uc) 101 (0, 0)) ∧ Rd σ 8 gp s.gots.length (s.gots.flatMap Got.cells) ∧ Rd σ 6 up s.ups.length (s.ups.flatMap Msg.cells) := by
  obtain ⟨x, h⟩ := h.get k hk (mono_stay p bs b s)
  exact ⟨x.1, x.2.1, x.2.2.1, x.2.2.2, h.pt 0 rfl, (h.own 1 rfl).rd, (h.own 2 rfl).rd⟩
theorem zip_at {p : Option Addr} {bs : List Nat} {ss : List JSt} {i b : Nat} {s : JSt} (hb : bs[i]? = some b) (hs : ss[i]? = some s) : (List.zipWith (stayA p bs) bs ss)[i]? = some (stayA p bs b s) := by
  rw [List.getElem?_zipWith, hb, hs]
theorem stays_at {rs : List Asr} {σ : Heap} {p : Option Addr} {bs : List Nat} {ss : List JSt} {k i b : Nat} {s : JSt} (h : Stars rs σ) (hk : rs[k]? = some (staysA p bs ss)) (hb : bs[i]? = some b) (hs : ss[i]? = some s) :
    ∃ gp gc up uc, σ b = some (.cells (stayC p bs s gp gc up uc) 101 (0, 0)) ∧ Rd σ 8 gp s.gots.length (s.gots.flatMap Got.cells) ∧ Rd σ 6 up s.ups.length (s.ups.flatMap Msg.cells) :=
  stay_at (show Stars (List.zipWith (stayA p bs) bs ss) σ from h.get k hk (Stars.mono _)) (zip_at hb hs)
theorem stays_open {rs : List Asr} {σ : Heap} {p : Option Addr} {bs : List Nat} {ss : List JSt} {i b : Nat} {s : JSt} (h : Stars (staysA p bs ss :: rs) σ) (hb : bs[i]? = some b) (hs : ss[i]? = some s) :
    ∃ gp gc up uc, Stars (pt b (.cells (stayC p bs s gp gc up uc) 101 (0, 0)) :: ownA 103 8 gp s.gots.length gc (s.gots.flatMap Got.cells) :: ownA 34 6 up s.ups.length uc (s.ups.flatMap Msg.cells) :: holeA p bs ss i :: rs) σ := by
  obtain ⟨x, h⟩ := (Stars.open_ h (zip_at hb hs)).ex
  exact ⟨x.1, x.2.1, x.2.2.1, x.2.2.2, h.flat⟩
theorem stays_close {rs : List Asr} {σ : Heap} {p : Option Addr} {bs : List Nat} {ss : List JSt} {i b : Nat} {s : JSt} {gp up : Option Addr} {gc uc : Nat} (h : Stars (pt b (.cells (stayC p bs s gp gc up uc) 101 (0, 0)) :: ownA 103 8 gp s.gots.length gc (s.gots.flatMap Got.cells) :: ownA 34 6 up s.ups.length uc (s.ups.flatMap Msg.cells) :: holeA p bs ss i :: rs) σ)
    (hb : bs[i]? = some b) (hi : i < ss.length) : Stars (staysA p bs (ss.set i s) :: rs) σ := by
  have h1 := h.fold 3
  have h2 : Stars (stayA p bs b s :: Stars ((List.zipWith (stayA p bs) bs ss).set i emp) :: rs) σ := h1.imp fun ρ hx => ⟨(gp, gc, up, uc), hx⟩
  have hlt : i < bs.length := (List.getElem?_eq_some_iff.1 hb).1
  have h3 := Stars.close_ h2 (by rw [List.length_zipWith]; omega)
  refine h3.imp fun ρ hx => ?_
  have e : (List.zipWith (stayA p bs) bs ss).set i (stayA p bs b s) = List.zipWith (stayA p bs) bs (ss.set i s) := by
    apply List.ext_getElem?
    intro j
    rw [List.getElem?_set, List.getElem?_zipWith, List.getElem?_zipWith, List.getElem?_set]
    by_cases hij : i = j
    · subst hij
      have : i < min bs.length ss.length := by omega
      simp [hb, hi, this]
    · simp [hij]
  rw [e] at hx; exact hx
theorem stays_push {rs : List Asr} {σ : Heap} {p : Option Addr} {bs : List Nat} {ss : List JSt} {b : Nat} {s : JSt} {gp up : Option Addr} {gc uc : Nat} (h : Stars (pt b (.cells (stayC p bs s gp gc up uc) 101 (0, 0)) :: ownA 103 8 gp s.gots.length gc (s.gots.flatMap Got.cells) :: ownA 34 6 up s.ups.length uc (s.ups.flatMap Msg.cells) :: staysA p bs ss :: rs) σ)
    (hl : bs.length = ss.length) (hw : ∀ x ∈ ss ++ [s], ∀ j, x.before = some j → j < bs.length) : Stars (staysA p (bs ++ [b]) (ss ++ [s]) :: rs) σ := by
  have key : ∀ (c : Nat) (x : JSt), (∀ j, x.before = some j → j < bs.length) → stayA p bs c x = stayA p (bs ++ [b]) c x := by
    intro c x hx
    have e : ∀ gp gc up uc, stayC p bs x gp gc up uc = stayC p (bs ++ [b]) x gp gc up uc := by
      intro gp gc up uc
      have e1 : x.before.bind (bs[·]?) = x.before.bind ((bs ++ [b])[·]?) := by
        cases hb : x.before with
        | none => rfl
        | some j => simp only [Option.bind_some]; rw [List.getElem?_append_left (hx j hb)]
      simp only [stayC, e1]
    funext h
    simp only [stayA, e]
  have h1 := h.fold 3
  have h2 : Stars (stayA p bs b s :: Stars (List.zipWith (stayA p bs) bs ss) :: rs) σ := h1.imp fun ρ hx => ⟨(gp, gc, up, uc), hx⟩
  have h3 := h2.snoc
  refine h3.imp fun ρ hx => ?_
  have e2 : List.zipWith (stayA p bs) bs ss = List.zipWith (stayA p (bs ++ [b])) bs ss := by
    apply List.ext_getElem?
    intro i
    rw [List.getElem?_zipWith, List.getElem?_zipWith]
    cases hb : bs[i]? with
    | none => rfl
    | some c => cases hs : ss[i]? with
      | none => rfl
      | some x => simp only []; rw [key c x (hw x (List.mem_append_left _ (List.mem_of_getElem? hs)))]
  rw [e2, key b s (hw s (by simp)), show List.zipWith (stayA p (bs ++ [b])) bs ss ++ [stayA p (bs ++ [b]) b s] = List.zipWith (stayA p (bs ++ [b])) (bs ++ [b]) (ss ++ [s]) by rw [List.zipWith_append hl]; rfl] at hx
  exact hx

theorem jbreaks_spec (σ : Heap) (rs : List Asr) (tb mb : Nat) (v0 v1 v3 : Value) (al : List (Int × Value)) (hS : Stars (pt tb (.cells #[v0, v1, .map (some mb), v3] 70 (0, 0)) :: mapA encI mb al :: rs) σ) (r : Int) (is : Bool) : Does Try.prog 35 #[.pointer (some ⟨tb, 0, none⟩), .int .i64 r, .bool is] σ (fun v τ => Stars (pt tb (.cells #[v0, v1, .map (some mb), v3] 70 (0, 0)) :: mapA encI mb (if is then put al r (.bool true) else al) :: rs) τ) := by
  refine Does.enter (n := 12) (l := [(0, _), (1, _), (2, _)]) Try.func35 rfl rfl (by simp) rfl ?_
  refine St.seq ?_
  refine St.region rfl ?_
  refine Reg.q rfl rfl rfl (q_move rfl) ?_
  refine Reg.done ?_
  refine St.keep [0, 1, 2, 6] ?_
  show St _ _ _ [(6, _), (0, _), (1, _), (2, _)] _ _ _
  refine St.cond rfl (fun hc0 => ?_) (fun hc0 => ?_)
  · skip
    refine St.region rfl ?_
    refine Reg.q rfl rfl rfl (q_move rfl) ?_
    refine Reg.q rfl rfl rfl (q_nil rfl) ?_
    refine Reg.q rfl rfl rfl (q_fieldAddr fo_70_2 rfl rfl) ?_
    refine Reg.q rfl rfl rfl (q_load1 ac_50 rfl (hS.pt 0 rfl) rfl) ?_
    refine Reg.q rfl rfl rfl (q_move rfl) ?_
    refine Reg.no rfl rfl (e_mapUpdate Try.underlying50 key_3 rfl rfl rfl (hS.map 1 rfl) (fun τu1_5 hmu1_5 huu1_5 => ?_))
    replace hS : Stars (_ :: _ :: rs) _ := (hS.top 1 rfl).mapU huu1_5 hmu1_5
    refine Reg.done ?_
    refine St.keep [6, 0, 1, 2] ?_
    show St _ _ _ [(6, _), (0, _), (1, _), (2, _)] _ _ _
    refine St.fin Try.func35 .nil (Sub.rfl' _) ?_
    simp only [hc0, if_true]; exact hS.top 1 rfl
  · skip
    refine St.skip ?_
    refine St.fin Try.func35 .nil (Sub.rfl' _) ?_
    simp only [hc0]; exact hS

theorem jwrong_spec (σ : Heap) (rs : List Asr) (tb : Nat) (v0 v1 v2 : Value) (nm : Int) (hS : Stars (pt tb (.cells #[v0, v1, v2, .int .i64 nm] 70 (0, 0)) :: rs) σ) (r : Int) (is : Bool) : Does Try.prog 55 #[.pointer (some ⟨tb, 0, none⟩), .int .i64 r, .bool is] σ (fun v τ => Stars (pt tb (.cells #[v0, v1, v2, .int .i64 (if is && (nm == 0 || decide (r < nm)) then r else nm)] 70 (0, 0)) :: rs) τ) := by
  refine Does.enter (n := 26) (l := [(0, _), (1, _), (2, _)]) Try.func55 rfl rfl (by simp) rfl ?_
  refine St.seq ?_
  refine St.region rfl ?_
  refine Reg.q rfl rfl rfl (q_move rfl) ?_
  refine Reg.q rfl rfl rfl (q_move rfl) ?_
  refine Reg.joinv 21 (.bool (is && (nm == 0 || decide (r < nm)))) 14 [0, 1, 2, 6] (fun hk0_15 => ?_) ?_
  · skip
    refine Reg.split (d := 7) rfl (fun hg7 => ?_) (fun hg7 => ?_)
    · skip
      refine Reg.q rfl rfl rfl (q_move rfl) ?_
      refine Reg.q rfl rfl rfl (q_nil rfl) ?_
      refine Reg.q rfl rfl rfl (q_fieldAddr fo_70_3 rfl rfl) ?_
      refine Reg.q rfl rfl rfl (q_load1 ac_3 rfl (hS.pt 0 rfl) rfl) ?_
      refine Reg.q rfl rfl rfl (q_ieq rfl rfl) ?_
      refine Reg.q rfl rfl rfl (q_move rfl) ?_
      refine Reg.split (d := 13) rfl (fun hg13 => ?_) (fun hg13 => ?_)
      · skip
        refine Reg.skip rfl rfl rfl ?_
        refine Reg.skip rfl rfl rfl ?_
        refine Reg.skip rfl rfl rfl ?_
        refine Reg.skip rfl rfl rfl ?_
        refine Reg.skip rfl rfl rfl ?_
        refine Reg.skip rfl rfl rfl ?_
        refine Reg.q rfl rfl rfl (q_pickT rfl rfl) ?_
        refine Reg.q rfl rfl rfl (q_pickT rfl rfl) ?_
        exact Reg.meet 16 [0, 1, 2, 6] hk0_15 rfl (by simp only [hg7, hg13, Bool.true_or, Bool.false_or, Bool.true_and, Bool.false_and, Bool.not_true, Bool.not_false]) rfl rfl
      · skip
        refine Reg.q rfl rfl rfl (q_move rfl) ?_
        refine Reg.q rfl rfl rfl (q_move rfl) ?_
        refine Reg.q rfl rfl rfl (q_nil rfl) ?_
        refine Reg.q rfl rfl rfl (q_fieldAddr fo_70_3 rfl rfl) ?_
        refine Reg.q rfl rfl rfl (q_load1 ac_3 rfl (hS.pt 0 rfl) rfl) ?_
        refine Reg.q rfl rfl rfl (q_lt rfl rfl) ?_
        refine Reg.q rfl rfl rfl (q_pickF rfl rfl) ?_
        refine Reg.q rfl rfl rfl (q_pickT rfl rfl) ?_
        exact Reg.meet 16 [0, 1, 2, 6] hk0_15 rfl (by simp only [hg7, hg13, Bool.true_or, Bool.false_or, Bool.true_and, Bool.false_and, Bool.not_true, Bool.not_false]) rfl rfl
    · skip
      refine Reg.skip rfl rfl rfl ?_
      refine Reg.skip rfl rfl rfl ?_
      refine Reg.skip rfl rfl rfl ?_
      refine Reg.skip rfl rfl rfl ?_
      refine Reg.skip rfl rfl rfl ?_
      refine Reg.skip rfl rfl rfl ?_
      refine Reg.skip rfl rfl rfl ?_
      refine Reg.skip rfl rfl rfl ?_
      refine Reg.skip rfl rfl rfl ?_
      refine Reg.skip rfl rfl rfl ?_
      refine Reg.skip rfl rfl rfl ?_
      refine Reg.skip rfl rfl rfl ?_
      refine Reg.skip rfl rfl rfl ?_
      refine Reg.q rfl rfl rfl (q_pickF rfl rfl) ?_
      exact Reg.meet 15 [0, 1, 2, 6] hk0_15 rfl (by simp only [hg7, Bool.true_or, Bool.false_or, Bool.true_and, Bool.false_and, Bool.not_true, Bool.not_false]) rfl rfl
  · skip
    refine Reg.done ?_
    refine St.keep [0, 1, 2, 21] ?_
    show St _ _ _ [(21, _), (0, _), (1, _), (2, _)] _ _ _
    refine St.cond rfl (fun hc0 => ?_) (fun hc0 => ?_)
    · skip
      refine St.region rfl ?_
      refine Reg.q rfl rfl rfl (q_move rfl) ?_
      refine Reg.q rfl rfl rfl (q_move rfl) ?_
      refine Reg.q rfl rfl rfl (q_nil rfl) ?_
      refine Reg.q rfl rfl rfl (q_fieldAddr fo_70_3 rfl rfl) ?_
      refine Reg.no rfl rfl (e_store rfl rfl sz_3 rfl (hS.pt 0 rfl) (Nat.le_of_ble_eq_true rfl) rfl (storeN_row rfl) (fun τs1_4 hs1_4 hu1_4 => ?_))
      replace hS : Stars (_ :: rs) _ := (hS.top 0 rfl).ptU hu1_4 hs1_4
      refine Reg.done ?_
      refine St.keep [21, 0, 1, 2] ?_
      show St _ _ _ [(21, _), (0, _), (1, _), (2, _)] _ _ _
      refine St.fin Try.func55 .nil (Sub.rfl' _) ?_
      rw [if_pos hc0]; exact hS
    · skip
      refine St.skip ?_
      refine St.fin Try.func55 .nil (Sub.rfl' _) ?_
      rw [if_neg (by rw [hc0]; decide)]; exact hS
end Go.Proofs.Ytdgdbnkhmdncdaa
