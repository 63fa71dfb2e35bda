/- Contracts of Go's library functions on slices of messages and names. -/
import Derived.Test.YtdgdbnkhmdncdaaH3
set_option linter.unusedSectionVars false
set_option linter.unusedSimpArgs false
set_option linter.unusedVariables false
namespace Go.Proofs.Ytdgdbnkhmdncdaa
open Go.Gw Go.Cs
variable [Env]
namespace FH4
theorem ac_124 : aggCells Try.prog 124 = some (some 2) := by kernel_rfl
theorem ac_34 : aggCells Try.prog 34 = some (some 6) := by kernel_rfl
theorem ac_60 : aggCells Try.prog 60 = some none := by kernel_rfl
theorem ca_52 : callable Try.prog 52 = true := by kernel_rfl
theorem ca_58 : callable Try.prog 58 = true := by kernel_rfl
theorem eg_124 : Try.prog.eqGuardType Try.prog.depth 124 = false := by kernel_rfl
theorem sb_34 : sizeBytes Try.prog 34 = some (6, 72) := by kernel_rfl
theorem se_120 : sliceElem Try.prog 120 = some 1 := by kernel_rfl
theorem se_37 : sliceElem Try.prog 37 = some 2 := by kernel_rfl
theorem se_60 : sliceElem Try.prog 60 = some 6 := by kernel_rfl
theorem sz_34 : szOf Try.prog 34 = some 6 := by kernel_rfl
theorem zo_34 : zeroOf Try.prog 34 = some #[.int .i64 0, .int .u32 0, .int .u64 0, .int .i64 0, .slice none 0 0, .string ⟨#[]⟩] := by kernel_rfl
end FH4
open FH4

theorem flat_msgs (xs : List Msg) : ∀ v ∈ xs.flatMap Msg.cells, flat v = true := by
  intro v hv
  obtain ⟨x, _, hx⟩ := List.mem_flatMap.1 hv
  simp [Msg.cells] at hx
  rcases hx with rfl | rfl | rfl | rfl | rfl | rfl <;> rfl
theorem core_step {xs ys : List Msg} {i : Nat} {a b : Msg} (h : (xs.take i).map Msg.core = (ys.take i).map Msg.core) (ha : xs[i]? = some a) (hb : ys[i]? = some b) (e : a.core = b.core) : (xs.take (i + 1)).map Msg.core = (ys.take (i + 1)).map Msg.core := by
  rw [List.take_add_one, List.take_add_one, List.map_append, List.map_append, h, ha, hb]; simp [e]
theorem core_ne {xs ys : List Msg} {i : Nat} {a b : Msg} (ha : xs[i]? = some a) (hb : ys[i]? = some b) (e : a.core ≠ b.core) : sames xs ys = false := by
  simp only [sames, beq_eq_false_iff_ne, ne_eq]
  intro h
  have := congrArg (·[i]?) h
  simp only [List.getElem?_map, ha, hb, Option.map_some, Option.some.injEq] at this
  exact e this

theorem eqf_spec (σ : Heap) (p q : Option Addr) (n k c d : Nat) (xs ys : List Msg) (hx : Rd σ 6 p n (xs.flatMap Msg.cells)) (hy : Rd σ 6 q k (ys.flatMap Msg.cells)) (hox : ∀ x ∈ xs, x.ok σ) (hoy : ∀ x ∈ ys, x.ok σ) (hb : n < 4611686018427387904) (g : FuncId) (hg : callable Try.prog g = true) (hf : ∀ τ a b, Msg.ok τ a → Msg.ok τ b → Does Try.prog g #[a.v, b.v] τ (fun v ρ => v = .bool (same a b) ∧ τ = ρ)) : Does Try.prog 36 #[.slice p n c, .slice q k d, .func (.func g) #[] #[]] σ (fun v τ => v = .bool (sames xs ys) ∧ σ = τ) := by
  refine Does.enter (n := 32) (l := [(0, _), (1, _), (2, _)]) Try.func36 rfl rfl (by simp) rfl ?_
  have hS : Stars (ro σ :: []) σ := Stars.ro0 σ
  have hn := Rd.len Msg.cells_len (by decide) hx
  have hk := Rd.len Msg.cells_len (by decide) hy
  subst hn hk
  refine St.seq ?_
  refine St.region rfl ?_
  refine Reg.q rfl rfl rfl (q_assign rfl) ?_
  refine Reg.done ?_
  refine St.keep [0, 1, 2, 6] ?_
  show St _ _ _ [(6, _), (0, _), (1, _), (2, _)] _ _ _
  refine St.seq ?_
  refine St.seq ?_
  refine St.region rfl ?_
  refine Reg.q rfl rfl rfl (q_move rfl) ?_
  refine Reg.q rfl rfl rfl (q_lenS rfl se_60 rfl) ?_
  refine Reg.q rfl rfl rfl (q_move rfl) ?_
  refine Reg.q rfl rfl rfl (q_lenS rfl se_60 rfl) ?_
  refine Reg.q rfl rfl rfl (q_ine rfl rfl) ?_
  refine Reg.done ?_
  refine St.keep [6, 0, 1, 2, 14] ?_
  show St _ _ _ [(14, _), (6, _), (0, _), (1, _), (2, _)] _ _ _
  refine St.cond rfl (fun hc0 => ?_) (fun hc0 => ?_)
  · skip
    refine St.seq ?_
    refine St.region rfl ?_
    refine Reg.q rfl rfl rfl (q_assign rfl) ?_
    refine Reg.done ?_
    refine St.keep [14, 6, 0, 1, 2] ?_
    show St _ _ _ [(6, _), (14, _), (6, _), (0, _), (1, _), (2, _)] _ _ _
    refine St.ret Try.func36 (.tmp rfl .nil) (hS.ro 0 rfl) ?_
    exact ⟨by simp at hc0; simp only [one]; congr 1; simp only [sames]; symm; rw [beq_eq_false_iff_ne]; intro h; have := congrArg List.length h; simp at this; omega, rfl⟩
  · simp at hc0
    have hl : xs.length = ys.length := by omega
    refine St.skip ?_
    refine St.seq ?_
    refine St.seq ?_
    refine St.region rfl ?_
    refine Reg.q rfl rfl rfl (q_move rfl) ?_
    refine Reg.q rfl rfl rfl (q_lenS rfl se_60 rfl) ?_
    refine Reg.q rfl rfl rfl (q_move rfl) ?_
    refine Reg.done ?_
    refine St.keep [14, 6, 0, 1, 2, 15, 16, 17] ?_
    show St _ _ _ [(17, _), (16, _), (15, _), (14, _), (6, _), (0, _), (1, _), (2, _)] _ _ _
    refine St.block ?_
    refine St.loopw (Y := Nat) (fun i => [(17, .int .i64 (i : Nat))]) [16, 15, 14, 6, 0, 1, 2] (fun i τ => τ = σ ∧ i ≤ xs.length ∧ (xs.take i).map Msg.core = (ys.take i).map Msg.core) (fun i => xs.length - i) (0) rfl (⟨rfl, Nat.zero_le _, by simp⟩) ?_
    intro i τ ⟨hτ, hi⟩ back
    subst hτ
    have hS : Stars (ro τ :: []) τ := Stars.ro0 τ
    show St _ _ _ [(17, _), (16, _), (15, _), (14, _), (6, _), (0, _), (1, _), (2, _)] _ _ _
    refine St.seq ?_
    refine St.region rfl ?_
    refine Reg.q rfl rfl rfl (q_lt rfl rfl) ?_
    refine Reg.done ?_
    refine St.keep [17, 16, 15, 14, 6, 0, 1, 2, 18] ?_
    show St _ _ _ [(18, _), (17, _), (16, _), (15, _), (14, _), (6, _), (0, _), (1, _), (2, _)] _ _ _
    refine St.seq ?_
    refine St.cond rfl (fun hc1 => ?_) (fun hc1 => ?_)
    · simp at hc1
      obtain ⟨b1, o1, cs1, T1, f1, rfl, hb1, hl1, hr1⟩ := Rd.row Msg.cells_len (by decide) hx (List.getElem?_eq_getElem hc1)
      obtain ⟨b2, o2, cs2, T2, f2, rfl, hb2, hl2, hr2⟩ := Rd.row Msg.cells_len (by decide) hy (List.getElem?_eq_getElem (hl ▸ hc1))
      refine St.skip ?_
      refine St.seq ?_
      refine St.block ?_
      refine St.seq ?_
      refine St.region rfl ?_
      refine Reg.q rfl rfl rfl (q_move rfl) ?_
      refine Reg.q rfl rfl rfl (q_indexAt se_60 rfl rfl rfl (by omega) rfl) ?_
      refine Reg.q rfl rfl rfl (q_loadA ac_34 rfl hb1 hr1) ?_
      refine Reg.x rfl rfl rfl (e_alloc zo_34 (fun b8 τ8 hb8 => ?_))
      replace hS : Stars (_ :: _ :: []) _ := hS.fresh hb8
      refine Reg.q rfl rfl rfl (q_assign rfl) ?_
      refine Reg.no rfl rfl (e_store rfl rfl sz_34 rfl (hS.pt 0 rfl) (Nat.le_of_ble_eq_true rfl) rfl (storeN_row rfl) (fun τs5_5 hs5_5 hu5_5 => ?_))
      replace hS : Stars (_ :: _ :: []) _ := (hS.top 0 rfl).ptU hu5_5 hs5_5
      refine Reg.done ?_
      refine St.keep [18, 17, 16, 15, 14, 6, 0, 1, 2, 8, 7] ?_
      show St _ _ _ [(7, _), (8, _), (18, _), (17, _), (16, _), (15, _), (14, _), (6, _), (0, _), (1, _), (2, _)] _ _ _
      refine St.seq ?_
      refine St.region rfl ?_
      refine Reg.q rfl rfl rfl (q_move rfl) ?_
      refine Reg.q rfl rfl rfl (q_move rfl) ?_
      refine Reg.q rfl rfl rfl (q_indexAt se_60 rfl rfl rfl (by omega) rfl) ?_
      refine Reg.q rfl rfl rfl (q_loadA ac_34 rfl (hS.ro 1 rfl _ _ hb2) hr2) ?_
      refine Reg.x rfl rfl rfl (e_alloc zo_34 (fun b9 τ9 hb9 => ?_))
      replace hS : Stars (_ :: _ :: _ :: []) _ := hS.fresh hb9
      refine Reg.no rfl rfl (e_store rfl rfl sz_34 rfl (hS.pt 0 rfl) (Nat.le_of_ble_eq_true rfl) rfl (storeN_row rfl) (fun τs6_5 hs6_5 hu6_5 => ?_))
      replace hS : Stars (_ :: _ :: _ :: []) _ := (hS.top 0 rfl).ptU hu6_5 hs6_5
      refine Reg.done ?_
      refine St.keep [7, 8, 18, 17, 16, 15, 14, 6, 0, 1, 2, 9] ?_
      show St _ _ _ [(9, _), (7, _), (8, _), (18, _), (17, _), (16, _), (15, _), (14, _), (6, _), (0, _), (1, _), (2, _)] _ _ _
      refine St.seq ?_
      refine St.region rfl ?_
      refine Reg.q rfl rfl rfl (q_move rfl) ?_
      refine Reg.q rfl rfl rfl (q_loadA ac_34 rfl (hS.pt 1 rfl) (rowN_row rfl)) ?_
      refine Reg.q rfl rfl rfl (q_loadA ac_34 rfl (hS.pt 0 rfl) (rowN_row rfl)) ?_
      refine Reg.x rfl rfl rfl (e_call rfl rfl rfl rfl rfl hg ((hf _ xs[i] (ys[i]'(hl ▸ hc1)) ((hox _ (List.getElem_mem hc1)).up (hS.ro 2 rfl)) ((hoy _ (List.getElem_mem (hl ▸ hc1))).up (hS.ro 2 rfl))).mono fun v29 τ29 h29 => ?_))
      obtain ⟨rfl, rfl⟩ := h29
      refine Reg.q rfl rfl rfl (q_not rfl) ?_
      refine Reg.done ?_
      refine St.keep [9, 7, 8, 18, 17, 16, 15, 14, 6, 0, 1, 2, 30] ?_
      show St _ _ _ [(30, _), (9, _), (7, _), (8, _), (18, _), (17, _), (16, _), (15, _), (14, _), (6, _), (0, _), (1, _), (2, _)] _ _ _
      refine St.cond rfl (fun hc2 => ?_) (fun hc2 => ?_)
      · simp at hc2
        refine St.seq ?_
        refine St.region rfl ?_
        refine Reg.q rfl rfl rfl (q_assign rfl) ?_
        refine Reg.done ?_
        refine St.keep [30, 9, 7, 8, 18, 17, 16, 15, 14, 6, 0, 1, 2] ?_
        show St _ _ _ [(6, _), (30, _), (9, _), (7, _), (8, _), (18, _), (17, _), (16, _), (15, _), (14, _), (6, _), (0, _), (1, _), (2, _)] _ _ _
        refine St.ret Try.func36 (.tmp rfl .nil) (hS.ro 2 rfl) ?_
        exact ⟨by simp only [one]; congr 1; exact (core_ne (List.getElem?_eq_getElem hc1) (List.getElem?_eq_getElem (hl ▸ hc1)) (fun h => by rw [(same_iff _ _).2 h] at hc2; cases hc2)).symm, rfl⟩
      · simp at hc2
        refine St.skip ?_
        refine St.inBlock ?_
        refine St.region rfl ?_
        refine Reg.q rfl rfl rfl (q_add rfl rfl (inc64 (by omega))) ?_
        refine Reg.q rfl rfl rfl (q_move rfl) ?_
        refine Reg.done ?_
        refine St.keep [30, 9, 7, 8, 18, 17, 16, 15, 14, 6, 0, 1, 2] ?_
        show St _ _ _ [(17, _), (30, _), (9, _), (7, _), (8, _), (18, _), (17, _), (16, _), (15, _), (14, _), (6, _), (0, _), (1, _), (2, _)] _ _ _
        refine St.conv (SubL.list (by rfl)) (hS.ro 2 rfl) (back (i + 1) _ ?_ ?_)
        · exact ⟨rfl, by omega, core_step hi.2 (List.getElem?_eq_getElem hc1) (List.getElem?_eq_getElem (hl ▸ hc1)) ((same_iff _ _).1 hc2)⟩
        · omega
    · simp at hc1
      refine St.exit rfl ?_
      refine St.seq ?_
      refine St.region rfl ?_
      refine Reg.q rfl rfl rfl (q_assign rfl) ?_
      refine Reg.done ?_
      refine St.keep [18, 17, 16, 15, 14, 6, 0, 1, 2] ?_
      show St _ _ _ [(6, _), (18, _), (17, _), (16, _), (15, _), (14, _), (6, _), (0, _), (1, _), (2, _)] _ _ _
      refine St.ret Try.func36 (.tmp rfl .nil) (hS.ro 0 rfl) ?_
      exact ⟨by simp only [one]; congr 1; have h1 := hi.2; rw [List.take_of_length_le (by omega), List.take_of_length_le (by omega)] at h1; simp [sames, h1], rfl⟩

theorem nix_spec (σ : Heap) (p : Option Addr) (n c : Nat) (xs : List Name) (y : Name) (hx : Rd σ 2 p n (xs.flatMap nameC)) (hb : n < 4611686018427387904) : Does Try.prog 58 #[.slice p n c, encName y] σ (fun v τ => ∃ d : Int, v = .int .i64 d ∧ decide (0 ≤ d) = xs.any (fun x => x == y) ∧ σ = τ) := by
  refine Does.enter (n := 19) (l := [(0, _), (1, _)]) Try.func58 rfl rfl (by simp) rfl ?_
  have hS : Stars (ro σ :: []) σ := Stars.ro0 σ
  have hn := Rd.len nameC_len (by decide) hx
  subst hn
  refine St.seq ?_
  refine St.region rfl ?_
  refine Reg.x rfl rfl rfl (e_box rfl (cellsN_eq rfl) (fun b3 τ3 hb3 => ?_))
  replace hS : Stars (_ :: _ :: []) _ := hS.fresh hb3
  refine Reg.q rfl rfl rfl (q_assign rfl) ?_
  refine Reg.done ?_
  refine St.keep [0, 1, 3, 4] ?_
  show St _ _ _ [(4, _), (3, _), (0, _), (1, _)] _ _ _
  refine St.seq ?_
  refine St.seq ?_
  refine St.region rfl ?_
  refine Reg.q rfl rfl rfl (q_move rfl) ?_
  refine Reg.q rfl rfl rfl (q_lenS rfl se_37 rfl) ?_
  refine Reg.q rfl rfl rfl (q_move rfl) ?_
  refine Reg.done ?_
  refine St.keep [4, 3, 0, 1, 7, 8] ?_
  show St _ _ _ [(8, _), (7, _), (4, _), (3, _), (0, _), (1, _)] _ _ _
  refine St.block ?_
  obtain ⟨τ0, hτ0⟩ : ∃ τ0, τ0 = τ3 := ⟨_, rfl⟩
  subst hτ0
  refine St.loopw (Y := Nat) (fun i => [(8, .int .i64 (i : Nat))]) [7, 4, 3, 0, 1] (fun i τ => τ = τ0 ∧ i ≤ xs.length ∧ (xs.take i).any (fun x => x == y) = false) (fun i => xs.length - i) (0) rfl (⟨rfl, Nat.zero_le _, by simp⟩) ?_
  intro i τ ⟨hτ, hi⟩ back
  subst hτ
  show St _ _ _ [(8, _), (7, _), (4, _), (3, _), (0, _), (1, _)] _ _ _
  refine St.seq ?_
  refine St.region rfl ?_
  refine Reg.q rfl rfl rfl (q_lt rfl rfl) ?_
  refine Reg.done ?_
  refine St.keep [8, 7, 4, 3, 0, 1, 9] ?_
  show St _ _ _ [(9, _), (8, _), (7, _), (4, _), (3, _), (0, _), (1, _)] _ _ _
  refine St.seq ?_
  refine St.cond rfl (fun hc0 => ?_) (fun hc0 => ?_)
  · simp at hc0
    obtain ⟨b1, o1, cs1, T1, f1, rfl, hb1, hl1, hr1⟩ := Rd.row nameC_len (by decide) (Rd.up hx (hS.ro 1 rfl)) (List.getElem?_eq_getElem hc0)
    refine St.skip ?_
    refine St.seq ?_
    refine St.block ?_
    refine St.seq ?_
    refine St.region rfl ?_
    refine Reg.q rfl rfl rfl (q_move rfl) ?_
    refine Reg.q rfl rfl rfl (q_assign rfl) ?_
    refine Reg.done ?_
    refine St.keep [9, 8, 7, 4, 3, 0, 1, 5] ?_
    show St _ _ _ [(5, _), (9, _), (8, _), (7, _), (4, _), (3, _), (0, _), (1, _)] _ _ _
    refine St.seq ?_
    refine St.draw0 [] [(0, .r), (1, .w), (2, .w), (3, .w), (4, .r), (5, .w)] mixed (by kernel_rfl) rfl ?_
    refine Dr.r rfl rfl rfl rfl (Sub.rfl' _) (q_loadA ac_124 rfl (hS.pt 0 rfl) (rowN_row rfl)) ?_
    refine Dr.w rfl rfl rfl rfl (q_move rfl) ?_
    refine Dr.w rfl rfl rfl rfl (q_move rfl) ?_
    refine Dr.w rfl rfl rfl rfl (q_indexAt se_37 rfl rfl rfl (by omega) rfl) ?_
    refine Dr.r rfl rfl rfl rfl (Sub.rfl' _) (q_loadA ac_124 rfl hb1 hr1) ?_
    refine Dr.w rfl rfl rfl rfl (q_aeq rfl rfl eg_124 (eq_124 y xs[i])) ?_
    refine Dr.done ?_
    refine St.keep [5, 9, 8, 7, 4, 3, 0, 1, 16] ?_
    show St _ _ _ [(16, _), (5, _), (9, _), (8, _), (7, _), (4, _), (3, _), (0, _), (1, _)] _ _ _
    refine St.cond rfl (fun hc1 => ?_) (fun hc1 => ?_)
    · skip
      refine St.seq ?_
      refine St.region rfl ?_
      refine Reg.q rfl rfl rfl (q_move rfl) ?_
      refine Reg.q rfl rfl rfl (q_assign rfl) ?_
      refine Reg.done ?_
      refine St.keep [16, 5, 9, 8, 7, 4, 3, 0, 1] ?_
      show St _ _ _ [(4, _), (16, _), (5, _), (9, _), (8, _), (7, _), (4, _), (3, _), (0, _), (1, _)] _ _ _
      refine St.ret Try.func58 (.tmp rfl .nil) (hS.ro 1 rfl) ?_
      exact ⟨_, rfl, by simp at hc1; rw [List.any_eq_true.2 ⟨_, List.getElem_mem hc0, by simp [hc1]⟩]; simp, rfl⟩
    · skip
      refine St.skip ?_
      refine St.inBlock ?_
      refine St.region rfl ?_
      refine Reg.q rfl rfl rfl (q_add rfl rfl (inc64 (by omega))) ?_
      refine Reg.q rfl rfl rfl (q_move rfl) ?_
      refine Reg.done ?_
      refine St.keep [16, 5, 9, 8, 7, 4, 3, 0, 1] ?_
      show St _ _ _ [(8, _), (16, _), (5, _), (9, _), (8, _), (7, _), (4, _), (3, _), (0, _), (1, _)] _ _ _
      refine St.conv (SubL.list (by rfl)) (Sub.rfl' _) (back (i + 1) _ ?_ ?_)
      · exact ⟨rfl, by omega, by rw [List.take_add_one, List.any_append, hi.2, List.getElem?_eq_getElem hc0]; simp at hc1; simp; exact fun h => hc1 h.symm⟩
      · omega
  · simp at hc0
    refine St.exit rfl ?_
    refine St.seq ?_
    refine St.region rfl ?_
    refine Reg.q rfl rfl rfl (q_assign rfl) ?_
    refine Reg.done ?_
    refine St.keep [9, 8, 7, 4, 3, 0, 1] ?_
    show St _ _ _ [(4, _), (9, _), (8, _), (7, _), (4, _), (3, _), (0, _), (1, _)] _ _ _
    refine St.ret Try.func58 (.tmp rfl .nil) (hS.ro 1 rfl) ?_
    exact ⟨_, rfl, by have h1 := hi.2; rw [List.take_of_length_le (by omega)] at h1; rw [h1]; rfl, rfl⟩

theorem nco_spec (σ : Heap) (p : Option Addr) (n c : Nat) (xs : List Name) (y : Name) (hx : Rd σ 2 p n (xs.flatMap nameC)) (hb : n < 4611686018427387904) : Does Try.prog 54 #[.slice p n c, encName y] σ (fun v τ => v = .bool (xs.any fun x => x == y) ∧ σ = τ) := by
  refine Does.enter (n := 9) (l := [(0, _), (1, _)]) Try.func54 rfl rfl (by simp) rfl ?_
  have hS : Stars (ro σ :: []) σ := Stars.ro0 σ
  refine St.seq ?_
  refine St.region rfl ?_
  refine Reg.x rfl rfl rfl (e_box rfl (cellsN_eq rfl) (fun b3 τ3 hb3 => ?_))
  replace hS : Stars (_ :: _ :: []) _ := hS.fresh hb3
  refine Reg.q rfl rfl rfl (q_assign rfl) ?_
  refine Reg.done ?_
  refine St.keep [0, 1, 3, 4] ?_
  show St _ _ _ [(4, _), (3, _), (0, _), (1, _)] _ _ _
  refine St.seq ?_
  refine St.region rfl ?_
  refine Reg.q rfl rfl rfl (q_move rfl) ?_
  refine Reg.q rfl rfl rfl (q_loadA ac_124 rfl (hS.pt 0 rfl) (rowN_row rfl)) ?_
  refine Reg.x rfl rfl rfl (e_callF rfl rfl rfl ca_58 ((nix_spec _ _ _ _ _ y (Rd.up hx (hS.ro 1 rfl)) hb).mono fun v7 τ7 h7 => ?_))
  obtain ⟨d, rfl, hd, rfl⟩ := h7
  refine Reg.q rfl rfl rfl (q_ge rfl rfl) ?_
  refine Reg.q rfl rfl rfl (q_assign rfl) ?_
  refine Reg.done ?_
  refine St.keep [4, 3, 0, 1] ?_
  show St _ _ _ [(4, _), (4, _), (3, _), (0, _), (1, _)] _ _ _
  refine St.ret Try.func54 (.tmp rfl .nil) (hS.ro 1 rfl) ?_
  exact ⟨by simp [one, hd], rfl⟩

theorem grow0_spec (σ : Heap) : Does Try.prog 52 #[.slice none 0 0, .int .i64 ((0 : Nat) : Int)] σ (fun v τ => v = .slice none 0 0 ∧ σ = τ) := by
  refine Does.enter (n := 27) (l := [(0, _), (1, _)]) Try.func52 rfl rfl (by simp) rfl ?_
  refine St.seq ?_
  refine St.region rfl ?_
  refine Reg.q rfl rfl rfl (q_assign rfl) ?_
  refine Reg.done ?_
  refine St.keep [0, 1, 4] ?_
  show St _ _ _ [(4, _), (0, _), (1, _)] _ _ _
  refine St.seq ?_
  refine St.seq ?_
  refine St.region rfl ?_
  refine Reg.q rfl rfl rfl (q_move rfl) ?_
  refine Reg.q rfl rfl rfl (q_lt rfl rfl) ?_
  refine Reg.done ?_
  refine St.keep [4, 0, 1, 6] ?_
  show St _ _ _ [(6, _), (4, _), (0, _), (1, _)] _ _ _
  refine St.condF rfl ?_
  refine St.skip ?_
  refine St.seq ?_
  refine St.seq ?_
  refine St.region rfl ?_
  refine Reg.q rfl rfl rfl (q_move rfl) ?_
  refine Reg.q rfl rfl rfl (q_move rfl) ?_
  refine Reg.q rfl rfl rfl (q_cap rfl Try.underlying60 rfl) ?_
  refine Reg.q rfl rfl rfl (q_move rfl) ?_
  refine Reg.q rfl rfl rfl (q_lenS rfl se_60 rfl) ?_
  refine Reg.q rfl rfl rfl (q_sub rfl rfl (wrap64 (by decide))) ?_
  refine Reg.q rfl rfl rfl (q_sub rfl rfl (wrap64 (by decide))) ?_
  refine Reg.q rfl rfl rfl (q_assign rfl) ?_
  refine Reg.done ?_
  refine St.keep [6, 4, 0, 1] ?_
  show St _ _ _ [(1, _), (6, _), (4, _), (0, _), (1, _)] _ _ _
  refine St.seq ?_
  refine St.region rfl ?_
  refine Reg.q rfl rfl rfl (q_move rfl) ?_
  refine Reg.q rfl rfl rfl (q_gt rfl rfl) ?_
  refine Reg.done ?_
  refine St.keep [1, 6, 4, 0, 1, 16] ?_
  show St _ _ _ [(16, _), (1, _), (6, _), (4, _), (0, _), (1, _)] _ _ _
  refine St.condF rfl ?_
  refine St.skip ?_
  refine St.seq ?_
  refine St.region rfl ?_
  refine Reg.q rfl rfl rfl (q_move rfl) ?_
  refine Reg.q rfl rfl rfl (q_assign rfl) ?_
  refine Reg.done ?_
  refine St.keep [16, 1, 6, 4, 0, 1] ?_
  show St _ _ _ [(4, _), (16, _), (1, _), (6, _), (4, _), (0, _), (1, _)] _ _ _
  refine St.ret Try.func52 (.tmp rfl .nil) (Sub.rfl' _) ?_
  exact ⟨rfl, rfl⟩

theorem grow1_spec (σ : Heap) (k : Nat) (hk : 0 < k) (hb : k * 72 ≤ 140737488355328) : Does Try.prog 52 #[.slice none 0 0, .int .i64 (k : Int)] σ (fun v τ => ∃ b N cs, v = .slice (some ⟨b, 0, none⟩) 0 N ∧ New σ b (.cells cs 34 (0, 0)) τ ∧ N * 6 ≤ cs.size) := by
  refine Does.enter (n := 27) (l := [(0, _), (1, _)]) Try.func52 rfl rfl (by simp) rfl ?_
  refine St.seq ?_
  refine St.region rfl ?_
  refine Reg.q rfl rfl rfl (q_assign rfl) ?_
  refine Reg.done ?_
  refine St.keep [0, 1, 4] ?_
  show St _ _ _ [(4, _), (0, _), (1, _)] _ _ _
  refine St.seq ?_
  refine St.seq ?_
  refine St.region rfl ?_
  refine Reg.q rfl rfl rfl (q_move rfl) ?_
  refine Reg.q rfl rfl rfl (q_lt rfl rfl) ?_
  refine Reg.done ?_
  refine St.keep [4, 0, 1, 6] ?_
  show St _ _ _ [(6, _), (4, _), (0, _), (1, _)] _ _ _
  refine St.cond rfl (fun hc0 => ?_) (fun hc0 => ?_)
  · exact absurd hc0 (by simp)
  · skip
    refine St.skip ?_
    refine St.seq ?_
    refine St.seq ?_
    refine St.region rfl ?_
    refine Reg.q rfl rfl rfl (q_move rfl) ?_
    refine Reg.q rfl rfl rfl (q_move rfl) ?_
    refine Reg.q rfl rfl rfl (q_cap rfl Try.underlying60 rfl) ?_
    refine Reg.q rfl rfl rfl (q_move rfl) ?_
    refine Reg.q rfl rfl rfl (q_lenS rfl se_60 rfl) ?_
    refine Reg.q rfl rfl rfl (q_sub rfl rfl (wrap64 (by omega))) ?_
    refine Reg.q rfl rfl rfl (q_sub rfl rfl (show IntKind.i64.wrap _ = (k : Int) by rw [wrap64 (by omega)]; omega)) ?_
    refine Reg.q rfl rfl rfl (q_assign rfl) ?_
    refine Reg.done ?_
    refine St.keep [6, 4, 0, 1] ?_
    show St _ _ _ [(1, _), (6, _), (4, _), (0, _), (1, _)] _ _ _
    refine St.seq ?_
    refine St.region rfl ?_
    refine Reg.q rfl rfl rfl (q_move rfl) ?_
    refine Reg.q rfl rfl rfl (q_gt rfl rfl) ?_
    refine Reg.done ?_
    refine St.keep [1, 6, 4, 0, 1, 16] ?_
    show St _ _ _ [(16, _), (1, _), (6, _), (4, _), (0, _), (1, _)] _ _ _
    refine St.cond rfl (fun hc1 => ?_) (fun hc1 => ?_)
    · skip
      refine St.region rfl ?_
      refine Reg.q rfl rfl rfl (q_move rfl) ?_
      refine Reg.q rfl rfl rfl (q_move rfl) ?_
      refine Reg.q rfl rfl rfl (q_cap rfl Try.underlying60 rfl) ?_
      refine Reg.q rfl rfl rfl (q_sliceTo se_60 rfl (by simp) (show _ = some (Value.int .i64 ((0 : Nat) : Int)) from rfl) (by omega)) ?_
      refine Reg.q rfl rfl rfl (q_move rfl) ?_
      refine Reg.x rfl rfl rfl (e_appendZ rfl Try.underlying60 Try.underlying3 sb_34 zo_34 rfl rfl rfl (by omega) (by decide) (by omega) (by omega) (fun b22 N22 τ22 cs22 hN22 hb22 hz22 => ?_))
      skip
      refine Reg.q rfl rfl rfl (q_move rfl) ?_
      refine Reg.q rfl rfl rfl (q_lenS rfl se_60 rfl) ?_
      refine Reg.q rfl rfl rfl (q_sliceTo se_60 rfl (by simp) (show _ = some (Value.int .i64 ((0 : Nat) : Int)) from rfl) (by omega)) ?_
      refine Reg.q rfl rfl rfl (q_assign rfl) ?_
      refine Reg.done ?_
      refine St.keep [16, 1, 6, 4, 0, 1] ?_
      show St _ _ _ [(0, _), (16, _), (1, _), (6, _), (4, _), (0, _), (1, _)] _ _ _
      refine St.seq ?_
      refine St.region rfl ?_
      refine Reg.q rfl rfl rfl (q_move rfl) ?_
      refine Reg.q rfl rfl rfl (q_assign rfl) ?_
      refine Reg.done ?_
      refine St.keep [0, 16, 1, 6, 4, 0, 1] ?_
      show St _ _ _ [(4, _), (0, _), (16, _), (1, _), (6, _), (4, _), (0, _), (1, _)] _ _ _
      refine St.ret Try.func52 (.tmp rfl .nil) (Sub.rfl' _) ?_
      exact ⟨_, _, _, rfl, hb22, hz22⟩
    · exact absurd hc1 (by simp; omega)

theorem concat1_spec (σ : Heap) (b : Nat) (p q : Option Addr) (n k c d : Nat) (xs ys : List Msg) (hb : σ b = some (.cells #[.slice p n c, .slice q k d] 60 (0, 0))) (hx : Rd σ 6 p n (xs.flatMap Msg.cells)) (hy : Rd σ 6 q k (ys.flatMap Msg.cells)) (hpos : 0 < xs.length + ys.length) (hB : (xs.length + ys.length) * 72 ≤ 140737488355328) : Does Try.prog 45 #[.slice (some ⟨b, 0, none⟩) 2 2] σ (fun v τ => ∃ q c, v = .slice q (xs ++ ys).length c ∧ Gw.Sub σ τ ∧ Rd τ 6 q (xs ++ ys).length ((xs ++ ys).flatMap Msg.cells)) := by
  refine Does.enter (n := 36) (l := [(0, _)]) Try.func45 rfl rfl (by simp) rfl ?_
  have hS : Stars (ro σ :: []) σ := Stars.ro0 σ
  have hn := Rd.len Msg.cells_len (by decide) hx
  have hk := Rd.len Msg.cells_len (by decide) hy
  subst hn hk
  refine St.seq ?_
  refine St.region rfl ?_
  refine Reg.q rfl rfl rfl (q_assign rfl) ?_
  refine Reg.done ?_
  refine St.keep [0, 2] ?_
  show St _ _ _ [(2, _), (0, _)] _ _ _
  refine St.seq ?_
  refine St.region rfl ?_
  refine Reg.q rfl rfl rfl (q_assign rfl) ?_
  refine Reg.done ?_
  refine St.keep [2, 0, 3] ?_
  show St _ _ _ [(3, _), (2, _), (0, _)] _ _ _
  refine St.seq ?_
  refine St.seq ?_
  refine St.region rfl ?_
  refine Reg.q rfl rfl rfl (q_move rfl) ?_
  refine Reg.q rfl rfl rfl (q_lenS rfl se_120 rfl) ?_
  refine Reg.q rfl rfl rfl (q_move rfl) ?_
  refine Reg.done ?_
  refine St.keep [3, 2, 0, 9, 10, 11] ?_
  show St _ _ _ [(11, _), (10, _), (9, _), (3, _), (2, _), (0, _)] _ _ _
  refine St.block ?_
  refine St.enterLoop ?_
  refine St.seq ?_
  refine St.region rfl ?_
  refine Reg.q rfl rfl rfl (q_lt rfl rfl) ?_
  refine Reg.done ?_
  refine St.keep [11, 10, 9, 3, 2, 0, 12] ?_
  show St _ _ _ [(12, _), (11, _), (10, _), (9, _), (3, _), (2, _), (0, _)] _ _ _
  refine St.seq ?_
  refine St.condT rfl ?_
  refine St.skip ?_
  refine St.seq ?_
  refine St.block ?_
  refine St.seq ?_
  refine St.region rfl ?_
  refine Reg.q rfl rfl rfl (q_indexAt se_120 rfl rfl (show _ = some (Value.int .i64 ((0 : Nat) : Int)) from rfl) (by decide) rfl) ?_
  refine Reg.q rfl rfl rfl (q_load1 ac_60 rfl hb rfl) ?_
  refine Reg.q rfl rfl rfl (q_assign rfl) ?_
  refine Reg.done ?_
  refine St.keep [12, 11, 10, 9, 3, 2, 0, 5] ?_
  show St _ _ _ [(5, _), (12, _), (11, _), (10, _), (9, _), (3, _), (2, _), (0, _)] _ _ _
  refine St.seq ?_
  refine St.region rfl ?_
  refine Reg.q rfl rfl rfl (q_move rfl) ?_
  refine Reg.q rfl rfl rfl (q_move rfl) ?_
  refine Reg.q rfl rfl rfl (q_lenS rfl se_60 rfl) ?_
  refine Reg.q rfl rfl rfl (q_add rfl rfl (show IntKind.i64.wrap _ = ((xs.length : Nat) : Int) by rw [wrap64 (by omega)]; omega)) ?_
  refine Reg.q rfl rfl rfl (q_assign rfl) ?_
  refine Reg.done ?_
  refine St.keep [5, 12, 11, 10, 9, 3, 2, 0] ?_
  show St _ _ _ [(3, _), (5, _), (12, _), (11, _), (10, _), (9, _), (3, _), (2, _), (0, _)] _ _ _
  refine St.seq ?_
  refine St.region rfl ?_
  refine Reg.q rfl rfl rfl (q_move rfl) ?_
  refine Reg.q rfl rfl rfl (q_lt rfl rfl) ?_
  refine Reg.done ?_
  refine St.keep [3, 5, 12, 11, 10, 9, 3, 2, 0, 20] ?_
  show St _ _ _ [(20, _), (3, _), (5, _), (12, _), (11, _), (10, _), (9, _), (3, _), (2, _), (0, _)] _ _ _
  refine St.cond rfl (fun hc1 => ?_) (fun hc1 => ?_)
  · exact absurd hc1 (by simp <;> omega)
  · skip
    refine St.skip ?_
    refine St.inBlock ?_
    refine St.region rfl ?_
    refine Reg.q rfl rfl rfl (q_add rfl rfl (wrap64 (by decide))) ?_
    refine Reg.q rfl rfl rfl (q_move rfl) ?_
    refine Reg.done ?_
    refine St.keep [20, 3, 5, 12, 11, 10, 9, 3, 2, 0] ?_
    show St _ _ _ [(11, _), (20, _), (3, _), (5, _), (12, _), (11, _), (10, _), (9, _), (3, _), (2, _), (0, _)] _ _ _
    refine St.again ?_
    refine St.seq ?_
    refine St.region rfl ?_
    refine Reg.q rfl rfl rfl (q_lt rfl rfl) ?_
    refine Reg.done ?_
    refine St.keep [11, 20, 3, 5, 12, 11, 10, 9, 3, 2, 0] ?_
    show St _ _ _ [(12, _), (11, _), (20, _), (3, _), (5, _), (12, _), (11, _), (10, _), (9, _), (3, _), (2, _), (0, _)] _ _ _
    refine St.seq ?_
    refine St.condT rfl ?_
    refine St.skip ?_
    refine St.seq ?_
    refine St.block ?_
    refine St.seq ?_
    refine St.region rfl ?_
    refine Reg.q rfl rfl rfl (q_indexAt se_120 rfl rfl (show _ = some (Value.int .i64 ((1 : Nat) : Int)) from rfl) (by decide) rfl) ?_
    refine Reg.q rfl rfl rfl (q_load1 ac_60 rfl hb rfl) ?_
    refine Reg.q rfl rfl rfl (q_assign rfl) ?_
    refine Reg.done ?_
    refine St.keep [12, 11, 20, 3, 5, 12, 11, 10, 9, 3, 2, 0] ?_
    show St _ _ _ [(5, _), (12, _), (11, _), (20, _), (3, _), (5, _), (12, _), (11, _), (10, _), (9, _), (3, _), (2, _), (0, _)] _ _ _
    refine St.seq ?_
    refine St.region rfl ?_
    refine Reg.q rfl rfl rfl (q_move rfl) ?_
    refine Reg.q rfl rfl rfl (q_move rfl) ?_
    refine Reg.q rfl rfl rfl (q_lenS rfl se_60 rfl) ?_
    refine Reg.q rfl rfl rfl (q_add rfl rfl (show IntKind.i64.wrap _ = ((xs.length + ys.length : Nat) : Int) by rw [wrap64 (by omega)]; omega)) ?_
    refine Reg.q rfl rfl rfl (q_assign rfl) ?_
    refine Reg.done ?_
    refine St.keep [5, 12, 11, 20, 3, 5, 12, 11, 10, 9, 3, 2, 0] ?_
    show St _ _ _ [(3, _), (5, _), (12, _), (11, _), (20, _), (3, _), (5, _), (12, _), (11, _), (10, _), (9, _), (3, _), (2, _), (0, _)] _ _ _
    refine St.seq ?_
    refine St.region rfl ?_
    refine Reg.q rfl rfl rfl (q_move rfl) ?_
    refine Reg.q rfl rfl rfl (q_lt rfl rfl) ?_
    refine Reg.done ?_
    refine St.keep [3, 5, 12, 11, 20, 3, 5, 12, 11, 10, 9, 3, 2, 0] ?_
    show St _ _ _ [(20, _), (3, _), (5, _), (12, _), (11, _), (20, _), (3, _), (5, _), (12, _), (11, _), (10, _), (9, _), (3, _), (2, _), (0, _)] _ _ _
    refine St.cond rfl (fun hc1 => ?_) (fun hc1 => ?_)
    · exact absurd hc1 (by simp <;> omega)
    · skip
      refine St.skip ?_
      refine St.inBlock ?_
      refine St.region rfl ?_
      refine Reg.q rfl rfl rfl (q_add rfl rfl (wrap64 (by decide))) ?_
      refine Reg.q rfl rfl rfl (q_move rfl) ?_
      refine Reg.done ?_
      refine St.keep [20, 3, 5, 12, 11, 20, 3, 5, 12, 11, 10, 9, 3, 2, 0] ?_
      show St _ _ _ [(11, _), (20, _), (3, _), (5, _), (12, _), (11, _), (20, _), (3, _), (5, _), (12, _), (11, _), (10, _), (9, _), (3, _), (2, _), (0, _)] _ _ _
      refine St.again ?_
      refine St.seq ?_
      refine St.region rfl ?_
      refine Reg.q rfl rfl rfl (q_lt rfl rfl) ?_
      refine Reg.done ?_
      refine St.keep [11, 20, 3, 5, 12, 11, 20, 3, 5, 12, 11, 10, 9, 3, 2, 0] ?_
      show St _ _ _ [(12, _), (11, _), (20, _), (3, _), (5, _), (12, _), (11, _), (20, _), (3, _), (5, _), (12, _), (11, _), (10, _), (9, _), (3, _), (2, _), (0, _)] _ _ _
      refine St.seq ?_
      refine St.condF rfl ?_
      refine St.exit rfl ?_
      refine St.seq ?_
      refine St.region rfl ?_
      refine Reg.q rfl rfl rfl (q_move rfl) ?_
      refine Reg.x rfl rfl rfl (e_callF rfl rfl rfl ca_52 ((grow1_spec _ _ hpos hB).mono fun v24 τ24 h24 => ?_))
      obtain ⟨b24, N24, cs24, rfl, hb24, hz24⟩ := h24
      replace hS : Stars (_ :: _ :: []) _ := (hS.fresh hb24).zown hz24
      refine Reg.q rfl rfl rfl (q_assign rfl) ?_
      refine Reg.done ?_
      refine St.keep [12, 11, 20, 3, 5, 12, 11, 20, 3, 5, 12, 11, 10, 9, 3, 2, 0, 6] ?_
      show St _ _ _ [(6, _), (12, _), (11, _), (20, _), (3, _), (5, _), (12, _), (11, _), (20, _), (3, _), (5, _), (12, _), (11, _), (10, _), (9, _), (3, _), (2, _), (0, _)] _ _ _
      refine St.seq ?_
      refine St.seq ?_
      refine St.region rfl ?_
      refine Reg.q rfl rfl rfl (q_move rfl) ?_
      refine Reg.q rfl rfl rfl (q_lenS rfl se_120 rfl) ?_
      refine Reg.q rfl rfl rfl (q_move rfl) ?_
      refine Reg.done ?_
      refine St.keep [6, 12, 11, 20, 3, 5, 12, 11, 20, 3, 5, 12, 11, 10, 9, 3, 2, 0, 25, 26, 27] ?_
      show St _ _ _ [(27, _), (26, _), (25, _), (6, _), (12, _), (11, _), (20, _), (3, _), (5, _), (12, _), (11, _), (20, _), (3, _), (5, _), (12, _), (11, _), (10, _), (9, _), (3, _), (2, _), (0, _)] _ _ _
      refine St.block ?_
      refine St.enterLoop ?_
      refine St.seq ?_
      refine St.region rfl ?_
      refine Reg.q rfl rfl rfl (q_lt rfl rfl) ?_
      refine Reg.done ?_
      refine St.keep [27, 26, 25, 6, 12, 11, 20, 3, 5, 12, 11, 20, 3, 5, 12, 11, 10, 9, 3, 2, 0, 28] ?_
      show St _ _ _ [(28, _), (27, _), (26, _), (25, _), (6, _), (12, _), (11, _), (20, _), (3, _), (5, _), (12, _), (11, _), (20, _), (3, _), (5, _), (12, _), (11, _), (10, _), (9, _), (3, _), (2, _), (0, _)] _ _ _
      refine St.seq ?_
      refine St.condT rfl ?_
      refine St.skip ?_
      refine St.seq ?_
      refine St.block ?_
      refine St.seq ?_
      refine St.region rfl ?_
      refine Reg.q rfl rfl rfl (q_indexAt se_120 rfl rfl (show _ = some (Value.int .i64 ((0 : Nat) : Int)) from rfl) (by decide) rfl) ?_
      refine Reg.q rfl rfl rfl (q_load1 ac_60 rfl (hS.ro 1 rfl _ _ hb) rfl) ?_
      refine Reg.q rfl rfl rfl (q_assign rfl) ?_
      refine Reg.done ?_
      refine St.keep [28, 27, 26, 25, 6, 12, 11, 20, 3, 5, 12, 11, 20, 3, 5, 12, 11, 10, 9, 3, 2, 0, 8] ?_
      show St _ _ _ [(8, _), (28, _), (27, _), (26, _), (25, _), (6, _), (12, _), (11, _), (20, _), (3, _), (5, _), (12, _), (11, _), (20, _), (3, _), (5, _), (12, _), (11, _), (10, _), (9, _), (3, _), (2, _), (0, _)] _ _ _
      refine St.region rfl ?_
      refine Reg.q rfl rfl rfl (q_move rfl) ?_
      refine Reg.q rfl rfl rfl (q_move rfl) ?_
      refine Reg.x rfl rfl rfl (e_append rfl Try.underlying60 Try.underlying60 sb_34 zo_34 rfl rfl rfl (hS.own 0 rfl) (Rd.up hx (hS.ro 1 rfl)) (.inr rfl) (flat_msgs xs) (by omega) (by omega) (fun b33 o33 c33 τ33 hf33 hu33 ho33 => ?_))
      replace hS : Stars (_ :: _ :: []) _ := (hS.top 0 rfl).ownU hf33 hu33 ho33
      refine Reg.q rfl rfl rfl (q_assign rfl) ?_
      refine Reg.done ?_
      refine St.keep [8, 28, 27, 26, 25, 6, 12, 11, 20, 3, 5, 12, 11, 20, 3, 5, 12, 11, 10, 9, 3, 2, 0] ?_
      show St _ _ _ [(6, _), (8, _), (28, _), (27, _), (26, _), (25, _), (6, _), (12, _), (11, _), (20, _), (3, _), (5, _), (12, _), (11, _), (20, _), (3, _), (5, _), (12, _), (11, _), (10, _), (9, _), (3, _), (2, _), (0, _)] _ _ _
      refine St.inBlock ?_
      refine St.region rfl ?_
      refine Reg.q rfl rfl rfl (q_add rfl rfl (wrap64 (by decide))) ?_
      refine Reg.q rfl rfl rfl (q_move rfl) ?_
      refine Reg.done ?_
      refine St.keep [6, 8, 28, 27, 26, 25, 6, 12, 11, 20, 3, 5, 12, 11, 20, 3, 5, 12, 11, 10, 9, 3, 2, 0] ?_
      show St _ _ _ [(27, _), (6, _), (8, _), (28, _), (27, _), (26, _), (25, _), (6, _), (12, _), (11, _), (20, _), (3, _), (5, _), (12, _), (11, _), (20, _), (3, _), (5, _), (12, _), (11, _), (10, _), (9, _), (3, _), (2, _), (0, _)] _ _ _
      refine St.again ?_
      refine St.seq ?_
      refine St.region rfl ?_
      refine Reg.q rfl rfl rfl (q_lt rfl rfl) ?_
      refine Reg.done ?_
      refine St.keep [27, 6, 8, 28, 27, 26, 25, 6, 12, 11, 20, 3, 5, 12, 11, 20, 3, 5, 12, 11, 10, 9, 3, 2, 0] ?_
      show St _ _ _ [(28, _), (27, _), (6, _), (8, _), (28, _), (27, _), (26, _), (25, _), (6, _), (12, _), (11, _), (20, _), (3, _), (5, _), (12, _), (11, _), (20, _), (3, _), (5, _), (12, _), (11, _), (10, _), (9, _), (3, _), (2, _), (0, _)] _ _ _
      refine St.seq ?_
      refine St.condT rfl ?_
      refine St.skip ?_
      refine St.seq ?_
      refine St.block ?_
      refine St.seq ?_
      refine St.region rfl ?_
      refine Reg.q rfl rfl rfl (q_indexAt se_120 rfl rfl (show _ = some (Value.int .i64 ((1 : Nat) : Int)) from rfl) (by decide) rfl) ?_
      refine Reg.q rfl rfl rfl (q_load1 ac_60 rfl (hS.ro 1 rfl _ _ hb) rfl) ?_
      refine Reg.q rfl rfl rfl (q_assign rfl) ?_
      refine Reg.done ?_
      refine St.keep [28, 27, 6, 8, 28, 27, 26, 25, 6, 12, 11, 20, 3, 5, 12, 11, 20, 3, 5, 12, 11, 10, 9, 3, 2, 0] ?_
      show St _ _ _ [(8, _), (28, _), (27, _), (6, _), (8, _), (28, _), (27, _), (26, _), (25, _), (6, _), (12, _), (11, _), (20, _), (3, _), (5, _), (12, _), (11, _), (20, _), (3, _), (5, _), (12, _), (11, _), (10, _), (9, _), (3, _), (2, _), (0, _)] _ _ _
      refine St.region rfl ?_
      refine Reg.q rfl rfl rfl (q_move rfl) ?_
      refine Reg.q rfl rfl rfl (q_move rfl) ?_
      refine Reg.x rfl rfl rfl (e_append rfl Try.underlying60 Try.underlying60 sb_34 zo_34 rfl rfl rfl (hS.own 0 rfl) (Rd.up hy (hS.ro 1 rfl)) (.inr rfl) (flat_msgs ys) (by omega) (by omega) (fun b33 o33 c33 τ33 hf33 hu33 ho33 => ?_))
      replace hS : Stars (_ :: _ :: []) _ := (hS.top 0 rfl).ownU hf33 hu33 ho33
      refine Reg.q rfl rfl rfl (q_assign rfl) ?_
      refine Reg.done ?_
      refine St.keep [8, 28, 27, 6, 8, 28, 27, 26, 25, 6, 12, 11, 20, 3, 5, 12, 11, 20, 3, 5, 12, 11, 10, 9, 3, 2, 0] ?_
      show St _ _ _ [(6, _), (8, _), (28, _), (27, _), (6, _), (8, _), (28, _), (27, _), (26, _), (25, _), (6, _), (12, _), (11, _), (20, _), (3, _), (5, _), (12, _), (11, _), (20, _), (3, _), (5, _), (12, _), (11, _), (10, _), (9, _), (3, _), (2, _), (0, _)] _ _ _
      refine St.inBlock ?_
      refine St.region rfl ?_
      refine Reg.q rfl rfl rfl (q_add rfl rfl (wrap64 (by decide))) ?_
      refine Reg.q rfl rfl rfl (q_move rfl) ?_
      refine Reg.done ?_
      refine St.keep [6, 8, 28, 27, 6, 8, 28, 27, 26, 25, 6, 12, 11, 20, 3, 5, 12, 11, 20, 3, 5, 12, 11, 10, 9, 3, 2, 0] ?_
      show St _ _ _ [(27, _), (6, _), (8, _), (28, _), (27, _), (6, _), (8, _), (28, _), (27, _), (26, _), (25, _), (6, _), (12, _), (11, _), (20, _), (3, _), (5, _), (12, _), (11, _), (20, _), (3, _), (5, _), (12, _), (11, _), (10, _), (9, _), (3, _), (2, _), (0, _)] _ _ _
      refine St.again ?_
      refine St.seq ?_
      refine St.region rfl ?_
      refine Reg.q rfl rfl rfl (q_lt rfl rfl) ?_
      refine Reg.done ?_
      refine St.keep [27, 6, 8, 28, 27, 6, 8, 28, 27, 26, 25, 6, 12, 11, 20, 3, 5, 12, 11, 20, 3, 5, 12, 11, 10, 9, 3, 2, 0] ?_
      show St _ _ _ [(28, _), (27, _), (6, _), (8, _), (28, _), (27, _), (6, _), (8, _), (28, _), (27, _), (26, _), (25, _), (6, _), (12, _), (11, _), (20, _), (3, _), (5, _), (12, _), (11, _), (20, _), (3, _), (5, _), (12, _), (11, _), (10, _), (9, _), (3, _), (2, _), (0, _)] _ _ _
      refine St.seq ?_
      refine St.condF rfl ?_
      refine St.exit rfl ?_
      refine St.seq ?_
      refine St.region rfl ?_
      refine Reg.q rfl rfl rfl (q_move rfl) ?_
      refine Reg.q rfl rfl rfl (q_assign rfl) ?_
      refine Reg.done ?_
      refine St.keep [28, 27, 6, 8, 28, 27, 6, 8, 28, 27, 26, 25, 6, 12, 11, 20, 3, 5, 12, 11, 20, 3, 5, 12, 11, 10, 9, 3, 2, 0] ?_
      show St _ _ _ [(2, _), (28, _), (27, _), (6, _), (8, _), (28, _), (27, _), (6, _), (8, _), (28, _), (27, _), (26, _), (25, _), (6, _), (12, _), (11, _), (20, _), (3, _), (5, _), (12, _), (11, _), (20, _), (3, _), (5, _), (12, _), (11, _), (10, _), (9, _), (3, _), (2, _), (0, _)] _ _ _
      refine St.ret Try.func45 (.tmp rfl .nil) (Sub.rfl' _) ?_
      refine ⟨some ⟨b33, o33, none⟩, c33, ?_, hS.ro 1 rfl, ?_⟩
      · simp only [one]; rw [List.length_append, Nat.zero_add]
      · have := (hS.own 0 rfl).rd; simpa using this

theorem concat0_spec (σ : Heap) (b : Nat) (p q : Option Addr) (n k c d : Nat) (xs ys : List Msg) (hb : σ b = some (.cells #[.slice p n c, .slice q k d] 60 (0, 0))) (hx : Rd σ 6 p n (xs.flatMap Msg.cells)) (hy : Rd σ 6 q k (ys.flatMap Msg.cells)) (hpos : xs.length + ys.length = 0) : Does Try.prog 45 #[.slice (some ⟨b, 0, none⟩) 2 2] σ (fun v τ => ∃ q c, v = .slice q (xs ++ ys).length c ∧ Gw.Sub σ τ ∧ Rd τ 6 q (xs ++ ys).length ((xs ++ ys).flatMap Msg.cells)) := by
  refine Does.enter (n := 36) (l := [(0, _)]) Try.func45 rfl rfl (by simp) rfl ?_
  have hS : Stars (ro σ :: []) σ := Stars.ro0 σ
  have hn := Rd.len Msg.cells_len (by decide) hx
  have hk := Rd.len Msg.cells_len (by decide) hy
  subst hn hk
  have h1 : xs = [] := List.length_eq_zero_iff.1 (by omega)
  have h2 : ys = [] := List.length_eq_zero_iff.1 (by omega)
  subst h1 h2
  refine St.seq ?_
  refine St.region rfl ?_
  refine Reg.q rfl rfl rfl (q_assign rfl) ?_
  refine Reg.done ?_
  refine St.keep [0, 2] ?_
  show St _ _ _ [(2, _), (0, _)] _ _ _
  refine St.seq ?_
  refine St.region rfl ?_
  refine Reg.q rfl rfl rfl (q_assign rfl) ?_
  refine Reg.done ?_
  refine St.keep [2, 0, 3] ?_
  show St _ _ _ [(3, _), (2, _), (0, _)] _ _ _
  refine St.seq ?_
  refine St.seq ?_
  refine St.region rfl ?_
  refine Reg.q rfl rfl rfl (q_move rfl) ?_
  refine Reg.q rfl rfl rfl (q_lenS rfl se_120 rfl) ?_
  refine Reg.q rfl rfl rfl (q_move rfl) ?_
  refine Reg.done ?_
  refine St.keep [3, 2, 0, 9, 10, 11] ?_
  show St _ _ _ [(11, _), (10, _), (9, _), (3, _), (2, _), (0, _)] _ _ _
  refine St.block ?_
  refine St.enterLoop ?_
  refine St.seq ?_
  refine St.region rfl ?_
  refine Reg.q rfl rfl rfl (q_lt rfl rfl) ?_
  refine Reg.done ?_
  refine St.keep [11, 10, 9, 3, 2, 0, 12] ?_
  show St _ _ _ [(12, _), (11, _), (10, _), (9, _), (3, _), (2, _), (0, _)] _ _ _
  refine St.seq ?_
  refine St.condT rfl ?_
  refine St.skip ?_
  refine St.seq ?_
  refine St.block ?_
  refine St.seq ?_
  refine St.region rfl ?_
  refine Reg.q rfl rfl rfl (q_indexAt se_120 rfl rfl (show _ = some (Value.int .i64 ((0 : Nat) : Int)) from rfl) (by decide) rfl) ?_
  refine Reg.q rfl rfl rfl (q_load1 ac_60 rfl hb rfl) ?_
  refine Reg.q rfl rfl rfl (q_assign rfl) ?_
  refine Reg.done ?_
  refine St.keep [12, 11, 10, 9, 3, 2, 0, 5] ?_
  show St _ _ _ [(5, _), (12, _), (11, _), (10, _), (9, _), (3, _), (2, _), (0, _)] _ _ _
  refine St.seq ?_
  refine St.region rfl ?_
  refine Reg.q rfl rfl rfl (q_move rfl) ?_
  refine Reg.q rfl rfl rfl (q_move rfl) ?_
  refine Reg.q rfl rfl rfl (q_lenS rfl se_60 rfl) ?_
  refine Reg.q rfl rfl rfl (q_add rfl rfl (wrap64 (by decide))) ?_
  refine Reg.q rfl rfl rfl (q_assign rfl) ?_
  refine Reg.done ?_
  refine St.keep [5, 12, 11, 10, 9, 3, 2, 0] ?_
  show St _ _ _ [(3, _), (5, _), (12, _), (11, _), (10, _), (9, _), (3, _), (2, _), (0, _)] _ _ _
  refine St.seq ?_
  refine St.region rfl ?_
  refine Reg.q rfl rfl rfl (q_move rfl) ?_
  refine Reg.q rfl rfl rfl (q_lt rfl rfl) ?_
  refine Reg.done ?_
  refine St.keep [3, 5, 12, 11, 10, 9, 3, 2, 0, 20] ?_
  show St _ _ _ [(20, _), (3, _), (5, _), (12, _), (11, _), (10, _), (9, _), (3, _), (2, _), (0, _)] _ _ _
  refine St.condF rfl ?_
  refine St.skip ?_
  refine St.inBlock ?_
  refine St.region rfl ?_
  refine Reg.q rfl rfl rfl (q_add rfl rfl (wrap64 (by decide))) ?_
  refine Reg.q rfl rfl rfl (q_move rfl) ?_
  refine Reg.done ?_
  refine St.keep [20, 3, 5, 12, 11, 10, 9, 3, 2, 0] ?_
  show St _ _ _ [(11, _), (20, _), (3, _), (5, _), (12, _), (11, _), (10, _), (9, _), (3, _), (2, _), (0, _)] _ _ _
  refine St.again ?_
  refine St.seq ?_
  refine St.region rfl ?_
  refine Reg.q rfl rfl rfl (q_lt rfl rfl) ?_
  refine Reg.done ?_
  refine St.keep [11, 20, 3, 5, 12, 11, 10, 9, 3, 2, 0] ?_
  show St _ _ _ [(12, _), (11, _), (20, _), (3, _), (5, _), (12, _), (11, _), (10, _), (9, _), (3, _), (2, _), (0, _)] _ _ _
  refine St.seq ?_
  refine St.condT rfl ?_
  refine St.skip ?_
  refine St.seq ?_
  refine St.block ?_
  refine St.seq ?_
  refine St.region rfl ?_
  refine Reg.q rfl rfl rfl (q_indexAt se_120 rfl rfl (show _ = some (Value.int .i64 ((1 : Nat) : Int)) from rfl) (by decide) rfl) ?_
  refine Reg.q rfl rfl rfl (q_load1 ac_60 rfl hb rfl) ?_
  refine Reg.q rfl rfl rfl (q_assign rfl) ?_
  refine Reg.done ?_
  refine St.keep [12, 11, 20, 3, 5, 12, 11, 10, 9, 3, 2, 0] ?_
  show St _ _ _ [(5, _), (12, _), (11, _), (20, _), (3, _), (5, _), (12, _), (11, _), (10, _), (9, _), (3, _), (2, _), (0, _)] _ _ _
  refine St.seq ?_
  refine St.region rfl ?_
  refine Reg.q rfl rfl rfl (q_move rfl) ?_
  refine Reg.q rfl rfl rfl (q_move rfl) ?_
  refine Reg.q rfl rfl rfl (q_lenS rfl se_60 rfl) ?_
  refine Reg.q rfl rfl rfl (q_add rfl rfl (wrap64 (by decide))) ?_
  refine Reg.q rfl rfl rfl (q_assign rfl) ?_
  refine Reg.done ?_
  refine St.keep [5, 12, 11, 20, 3, 5, 12, 11, 10, 9, 3, 2, 0] ?_
  show St _ _ _ [(3, _), (5, _), (12, _), (11, _), (20, _), (3, _), (5, _), (12, _), (11, _), (10, _), (9, _), (3, _), (2, _), (0, _)] _ _ _
  refine St.seq ?_
  refine St.region rfl ?_
  refine Reg.q rfl rfl rfl (q_move rfl) ?_
  refine Reg.q rfl rfl rfl (q_lt rfl rfl) ?_
  refine Reg.done ?_
  refine St.keep [3, 5, 12, 11, 20, 3, 5, 12, 11, 10, 9, 3, 2, 0] ?_
  show St _ _ _ [(20, _), (3, _), (5, _), (12, _), (11, _), (20, _), (3, _), (5, _), (12, _), (11, _), (10, _), (9, _), (3, _), (2, _), (0, _)] _ _ _
  refine St.condF rfl ?_
  refine St.skip ?_
  refine St.inBlock ?_
  refine St.region rfl ?_
  refine Reg.q rfl rfl rfl (q_add rfl rfl (wrap64 (by decide))) ?_
  refine Reg.q rfl rfl rfl (q_move rfl) ?_
  refine Reg.done ?_
  refine St.keep [20, 3, 5, 12, 11, 20, 3, 5, 12, 11, 10, 9, 3, 2, 0] ?_
  show St _ _ _ [(11, _), (20, _), (3, _), (5, _), (12, _), (11, _), (20, _), (3, _), (5, _), (12, _), (11, _), (10, _), (9, _), (3, _), (2, _), (0, _)] _ _ _
  refine St.again ?_
  refine St.seq ?_
  refine St.region rfl ?_
  refine Reg.q rfl rfl rfl (q_lt rfl rfl) ?_
  refine Reg.done ?_
  refine St.keep [11, 20, 3, 5, 12, 11, 20, 3, 5, 12, 11, 10, 9, 3, 2, 0] ?_
  show St _ _ _ [(12, _), (11, _), (20, _), (3, _), (5, _), (12, _), (11, _), (20, _), (3, _), (5, _), (12, _), (11, _), (10, _), (9, _), (3, _), (2, _), (0, _)] _ _ _
  refine St.seq ?_
  refine St.condF rfl ?_
  refine St.exit rfl ?_
  refine St.seq ?_
  refine St.region rfl ?_
  refine Reg.q rfl rfl rfl (q_move rfl) ?_
  refine Reg.x rfl rfl rfl (e_callF rfl rfl rfl ca_52 ((grow0_spec _).mono fun v24 τ24 h24 => ?_))
  obtain ⟨rfl, rfl⟩ := h24
  refine Reg.q rfl rfl rfl (q_assign rfl) ?_
  refine Reg.done ?_
  refine St.keep [12, 11, 20, 3, 5, 12, 11, 20, 3, 5, 12, 11, 10, 9, 3, 2, 0, 6] ?_
  show St _ _ _ [(6, _), (12, _), (11, _), (20, _), (3, _), (5, _), (12, _), (11, _), (20, _), (3, _), (5, _), (12, _), (11, _), (10, _), (9, _), (3, _), (2, _), (0, _)] _ _ _
  refine St.seq ?_
  refine St.seq ?_
  refine St.region rfl ?_
  refine Reg.q rfl rfl rfl (q_move rfl) ?_
  refine Reg.q rfl rfl rfl (q_lenS rfl se_120 rfl) ?_
  refine Reg.q rfl rfl rfl (q_move rfl) ?_
  refine Reg.done ?_
  refine St.keep [6, 12, 11, 20, 3, 5, 12, 11, 20, 3, 5, 12, 11, 10, 9, 3, 2, 0, 25, 26, 27] ?_
  show St _ _ _ [(27, _), (26, _), (25, _), (6, _), (12, _), (11, _), (20, _), (3, _), (5, _), (12, _), (11, _), (20, _), (3, _), (5, _), (12, _), (11, _), (10, _), (9, _), (3, _), (2, _), (0, _)] _ _ _
  refine St.block ?_
  refine St.enterLoop ?_
  refine St.seq ?_
  refine St.region rfl ?_
  refine Reg.q rfl rfl rfl (q_lt rfl rfl) ?_
  refine Reg.done ?_
  refine St.keep [27, 26, 25, 6, 12, 11, 20, 3, 5, 12, 11, 20, 3, 5, 12, 11, 10, 9, 3, 2, 0, 28] ?_
  show St _ _ _ [(28, _), (27, _), (26, _), (25, _), (6, _), (12, _), (11, _), (20, _), (3, _), (5, _), (12, _), (11, _), (20, _), (3, _), (5, _), (12, _), (11, _), (10, _), (9, _), (3, _), (2, _), (0, _)] _ _ _
  refine St.seq ?_
  refine St.condT rfl ?_
  refine St.skip ?_
  refine St.seq ?_
  refine St.block ?_
  refine St.seq ?_
  refine St.region rfl ?_
  refine Reg.q rfl rfl rfl (q_indexAt se_120 rfl rfl (show _ = some (Value.int .i64 ((0 : Nat) : Int)) from rfl) (by decide) rfl) ?_
  refine Reg.q rfl rfl rfl (q_load1 ac_60 rfl (hS.ro 0 rfl _ _ hb) rfl) ?_
  refine Reg.q rfl rfl rfl (q_assign rfl) ?_
  refine Reg.done ?_
  refine St.keep [28, 27, 26, 25, 6, 12, 11, 20, 3, 5, 12, 11, 20, 3, 5, 12, 11, 10, 9, 3, 2, 0, 8] ?_
  show St _ _ _ [(8, _), (28, _), (27, _), (26, _), (25, _), (6, _), (12, _), (11, _), (20, _), (3, _), (5, _), (12, _), (11, _), (20, _), (3, _), (5, _), (12, _), (11, _), (10, _), (9, _), (3, _), (2, _), (0, _)] _ _ _
  refine St.region rfl ?_
  refine Reg.q rfl rfl rfl (q_move rfl) ?_
  refine Reg.q rfl rfl rfl (q_move rfl) ?_
  refine Reg.x rfl rfl rfl (e_append0 rfl Try.underlying60 Try.underlying60 sb_34 rfl rfl (Nat.le_refl 0) ?_)
  skip
  refine Reg.q rfl rfl rfl (q_assign rfl) ?_
  refine Reg.done ?_
  refine St.keep [8, 28, 27, 26, 25, 6, 12, 11, 20, 3, 5, 12, 11, 20, 3, 5, 12, 11, 10, 9, 3, 2, 0] ?_
  show St _ _ _ [(6, _), (8, _), (28, _), (27, _), (26, _), (25, _), (6, _), (12, _), (11, _), (20, _), (3, _), (5, _), (12, _), (11, _), (20, _), (3, _), (5, _), (12, _), (11, _), (10, _), (9, _), (3, _), (2, _), (0, _)] _ _ _
  refine St.inBlock ?_
  refine St.region rfl ?_
  refine Reg.q rfl rfl rfl (q_add rfl rfl (wrap64 (by decide))) ?_
  refine Reg.q rfl rfl rfl (q_move rfl) ?_
  refine Reg.done ?_
  refine St.keep [6, 8, 28, 27, 26, 25, 6, 12, 11, 20, 3, 5, 12, 11, 20, 3, 5, 12, 11, 10, 9, 3, 2, 0] ?_
  show St _ _ _ [(27, _), (6, _), (8, _), (28, _), (27, _), (26, _), (25, _), (6, _), (12, _), (11, _), (20, _), (3, _), (5, _), (12, _), (11, _), (20, _), (3, _), (5, _), (12, _), (11, _), (10, _), (9, _), (3, _), (2, _), (0, _)] _ _ _
  refine St.again ?_
  refine St.seq ?_
  refine St.region rfl ?_
  refine Reg.q rfl rfl rfl (q_lt rfl rfl) ?_
  refine Reg.done ?_
  refine St.keep [27, 6, 8, 28, 27, 26, 25, 6, 12, 11, 20, 3, 5, 12, 11, 20, 3, 5, 12, 11, 10, 9, 3, 2, 0] ?_
  show St _ _ _ [(28, _), (27, _), (6, _), (8, _), (28, _), (27, _), (26, _), (25, _), (6, _), (12, _), (11, _), (20, _), (3, _), (5, _), (12, _), (11, _), (20, _), (3, _), (5, _), (12, _), (11, _), (10, _), (9, _), (3, _), (2, _), (0, _)] _ _ _
  refine St.seq ?_
  refine St.condT rfl ?_
  refine St.skip ?_
  refine St.seq ?_
  refine St.block ?_
  refine St.seq ?_
  refine St.region rfl ?_
  refine Reg.q rfl rfl rfl (q_indexAt se_120 rfl rfl (show _ = some (Value.int .i64 ((1 : Nat) : Int)) from rfl) (by decide) rfl) ?_
  refine Reg.q rfl rfl rfl (q_load1 ac_60 rfl (hS.ro 0 rfl _ _ hb) rfl) ?_
  refine Reg.q rfl rfl rfl (q_assign rfl) ?_
  refine Reg.done ?_
  refine St.keep [28, 27, 6, 8, 28, 27, 26, 25, 6, 12, 11, 20, 3, 5, 12, 11, 20, 3, 5, 12, 11, 10, 9, 3, 2, 0] ?_
  show St _ _ _ [(8, _), (28, _), (27, _), (6, _), (8, _), (28, _), (27, _), (26, _), (25, _), (6, _), (12, _), (11, _), (20, _), (3, _), (5, _), (12, _), (11, _), (20, _), (3, _), (5, _), (12, _), (11, _), (10, _), (9, _), (3, _), (2, _), (0, _)] _ _ _
  refine St.region rfl ?_
  refine Reg.q rfl rfl rfl (q_move rfl) ?_
  refine Reg.q rfl rfl rfl (q_move rfl) ?_
  refine Reg.x rfl rfl rfl (e_append0 rfl Try.underlying60 Try.underlying60 sb_34 rfl rfl (Nat.le_refl 0) ?_)
  skip
  refine Reg.q rfl rfl rfl (q_assign rfl) ?_
  refine Reg.done ?_
  refine St.keep [8, 28, 27, 6, 8, 28, 27, 26, 25, 6, 12, 11, 20, 3, 5, 12, 11, 20, 3, 5, 12, 11, 10, 9, 3, 2, 0] ?_
  show St _ _ _ [(6, _), (8, _), (28, _), (27, _), (6, _), (8, _), (28, _), (27, _), (26, _), (25, _), (6, _), (12, _), (11, _), (20, _), (3, _), (5, _), (12, _), (11, _), (20, _), (3, _), (5, _), (12, _), (11, _), (10, _), (9, _), (3, _), (2, _), (0, _)] _ _ _
  refine St.inBlock ?_
  refine St.region rfl ?_
  refine Reg.q rfl rfl rfl (q_add rfl rfl (wrap64 (by decide))) ?_
  refine Reg.q rfl rfl rfl (q_move rfl) ?_
  refine Reg.done ?_
  refine St.keep [6, 8, 28, 27, 6, 8, 28, 27, 26, 25, 6, 12, 11, 20, 3, 5, 12, 11, 20, 3, 5, 12, 11, 10, 9, 3, 2, 0] ?_
  show St _ _ _ [(27, _), (6, _), (8, _), (28, _), (27, _), (6, _), (8, _), (28, _), (27, _), (26, _), (25, _), (6, _), (12, _), (11, _), (20, _), (3, _), (5, _), (12, _), (11, _), (20, _), (3, _), (5, _), (12, _), (11, _), (10, _), (9, _), (3, _), (2, _), (0, _)] _ _ _
  refine St.again ?_
  refine St.seq ?_
  refine St.region rfl ?_
  refine Reg.q rfl rfl rfl (q_lt rfl rfl) ?_
  refine Reg.done ?_
  refine St.keep [27, 6, 8, 28, 27, 6, 8, 28, 27, 26, 25, 6, 12, 11, 20, 3, 5, 12, 11, 20, 3, 5, 12, 11, 10, 9, 3, 2, 0] ?_
  show St _ _ _ [(28, _), (27, _), (6, _), (8, _), (28, _), (27, _), (6, _), (8, _), (28, _), (27, _), (26, _), (25, _), (6, _), (12, _), (11, _), (20, _), (3, _), (5, _), (12, _), (11, _), (20, _), (3, _), (5, _), (12, _), (11, _), (10, _), (9, _), (3, _), (2, _), (0, _)] _ _ _
  refine St.seq ?_
  refine St.condF rfl ?_
  refine St.exit rfl ?_
  refine St.seq ?_
  refine St.region rfl ?_
  refine Reg.q rfl rfl rfl (q_move rfl) ?_
  refine Reg.q rfl rfl rfl (q_assign rfl) ?_
  refine Reg.done ?_
  refine St.keep [28, 27, 6, 8, 28, 27, 6, 8, 28, 27, 26, 25, 6, 12, 11, 20, 3, 5, 12, 11, 20, 3, 5, 12, 11, 10, 9, 3, 2, 0] ?_
  show St _ _ _ [(2, _), (28, _), (27, _), (6, _), (8, _), (28, _), (27, _), (6, _), (8, _), (28, _), (27, _), (26, _), (25, _), (6, _), (12, _), (11, _), (20, _), (3, _), (5, _), (12, _), (11, _), (20, _), (3, _), (5, _), (12, _), (11, _), (10, _), (9, _), (3, _), (2, _), (0, _)] _ _ _
  refine St.ret Try.func45 (.tmp rfl .nil) (Sub.rfl' _) ?_
  exact ⟨none, 0, rfl, Sub.rfl' _, ⟨by simp, rfl⟩⟩

theorem concat_spec (σ : Heap) (b : Nat) (p q : Option Addr) (n k c d : Nat) (xs ys : List Msg) (hb : σ b = some (.cells #[.slice p n c, .slice q k d] 60 (0, 0))) (hx : Rd σ 6 p n (xs.flatMap Msg.cells)) (hy : Rd σ 6 q k (ys.flatMap Msg.cells)) (hB : (xs.length + ys.length) * 72 ≤ 140737488355328) : Does Try.prog 45 #[.slice (some ⟨b, 0, none⟩) 2 2] σ (fun v τ => ∃ q c, v = .slice q (xs ++ ys).length c ∧ Gw.Sub σ τ ∧ Rd τ 6 q (xs ++ ys).length ((xs ++ ys).flatMap Msg.cells)) := by
  rcases Nat.eq_zero_or_pos (xs.length + ys.length) with h | h
  · exact concat0_spec σ b p q n k c d xs ys hb hx hy h
  · exact concat1_spec σ b p q n k c d xs ys hb hx hy h hB
end Go.Proofs.Ytdgdbnkhmdncdaa
