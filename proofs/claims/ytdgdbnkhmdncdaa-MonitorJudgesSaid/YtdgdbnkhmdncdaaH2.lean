/- Structs that are compared, and keys of maps. -/
import Derived.Test.YtdgdbnkhmdncdaaGwO
import Derived.Test.YtdgdbnkhmdncdaaEv
import Derived.Test.YtdgdbnkhmdncdaaChecked
set_option linter.unusedSectionVars false
set_option linter.unusedSimpArgs false
set_option linter.unusedVariables false
namespace Go.Proofs.Ytdgdbnkhmdncdaa
open Go.Gw Go.Cs
variable [Env]
namespace FH2
theorem ac_28 : aggCells Try.prog 28 = some none := by kernel_rfl
theorem ac_3 : aggCells Try.prog 3 = some none := by kernel_rfl
theorem ac_30 : aggCells Try.prog 30 = some (some 2) := by kernel_rfl
theorem ac_31 : aggCells Try.prog 31 = some none := by kernel_rfl
theorem ac_77 : aggCells Try.prog 77 = some (some 4) := by kernel_rfl
theorem ac_94 : aggCells Try.prog 94 = some (some 4) := by kernel_rfl
theorem et_113 : eqTy Try.prog 113 = some [(false, 30, 0), (false, 30, 2)] := by kernel_rfl
theorem et_124 : eqTy Try.prog 124 = some [(false, 3, 0), (false, 31, 1)] := by kernel_rfl
theorem et_30 : eqTy Try.prog 30 = some [(false, 28, 0), (false, 3, 1)] := by kernel_rfl
theorem et_36 : eqTy Try.prog 36 = some [(false, 28, 0), (false, 30, 1), (false, 28, 3)] := by kernel_rfl
theorem et_77 : eqTy Try.prog 77 = some [(false, 30, 0), (false, 3, 2), (false, 31, 3)] := by kernel_rfl
theorem et_80 : eqTy Try.prog 80 = some [(false, 3, 0), (false, 77, 1)] := by kernel_rfl
theorem et_94 : eqTy Try.prog 94 = some [(false, 30, 0), (false, 3, 2), (false, 31, 3)] := by kernel_rfl
theorem et_98 : eqTy Try.prog 98 = some [(false, 3, 0), (false, 94, 1)] := by kernel_rfl
end FH2
open FH2

theorem key_3 : KeyT Try.prog 3 (fun a : Int => Value.int .i64 a) := KeyT.int Try.underlying3

theorem in_30 (k q : (Int × Int)) (n : Nat) (w : World) : (Op.equalIn (n + 2) 30 (encConf k) (encConf q)).run Try.prog w = .ok (k == q) w :=
  eqAgg et_30 fun fs0 h0 => eqF h0 ac_28 rfl rfl (run_equalIn_int w (n + 0) 28 _ _ _ _ Try.underlying28) fun fs1 h1 => eqL h1 ac_3 rfl rfl (run_equalIn_int w (n + 0) 3 _ _ _ _ Try.underlying3)
theorem eq_30 (k q : (Int × Int)) (w : World) : (Op.equal 30 (encConf k) (encConf q)).run Try.prog w = .ok (k == q) w := in_30 k q 9998 w
theorem chk_30 (em : Bool) (n : Nat) (k : (Int × Int)) (w : World) : (Instr.checkKey em (n + 2) 30 (encConf k)).run Try.prog w = .ok () w := by
  refine chkAgg et_30 fun p hp => ?_
  simp only [List.mem_cons, List.not_mem_nil, or_false] at hp
  rcases hp with rfl | rfl
  · exact ⟨rfl, _, _, ac_28, rfl, chkInt Try.underlying28⟩
  · exact ⟨rfl, _, _, ac_3, rfl, chkInt Try.underlying3⟩
theorem key_30 : KeyT Try.prog 30 encConf := KeyT.struct (wide_of et_30) encConf_inj (fun em k w => chk_30 em 9998 k w) (fun a b w => ⟨a == b, eq_30 a b w, beq_iff_eq⟩) (fun k => encConf_same 9999 k)

theorem in_36 (k q : (Int × (Int × Int) × Int)) (n : Nat) (w : World) : (Op.equalIn (n + 3) 36 (encView k) (encView q)).run Try.prog w = .ok (k == q) w :=
  eqAgg et_36 fun fs0 h0 => eqF h0 ac_28 rfl rfl (run_equalIn_int w (n + 1) 28 _ _ _ _ Try.underlying28) fun fs1 h1 => eqF h1 ac_30 rfl rfl (in_30 k.2.1 q.2.1 (n + 0) w) fun fs2 h2 => eqL h2 ac_28 rfl rfl (run_equalIn_int w (n + 1) 28 _ _ _ _ Try.underlying28)
theorem eq_36 (k q : (Int × (Int × Int) × Int)) (w : World) : (Op.equal 36 (encView k) (encView q)).run Try.prog w = .ok (k == q) w := in_36 k q 9997 w
theorem chk_36 (em : Bool) (n : Nat) (k : (Int × (Int × Int) × Int)) (w : World) : (Instr.checkKey em (n + 3) 36 (encView k)).run Try.prog w = .ok () w := by
  refine chkAgg et_36 fun p hp => ?_
  simp only [List.mem_cons, List.not_mem_nil, or_false] at hp
  rcases hp with rfl | rfl | rfl
  · exact ⟨rfl, _, _, ac_28, rfl, chkInt Try.underlying28⟩
  · exact ⟨rfl, _, _, ac_30, rfl, chk_30 em _ k.2.1 w⟩
  · exact ⟨rfl, _, _, ac_28, rfl, chkInt Try.underlying28⟩
theorem key_36 : KeyT Try.prog 36 encView := KeyT.struct (wide_of et_36) encView_inj (fun em k w => chk_36 em 9997 k w) (fun a b w => ⟨a == b, eq_36 a b w, beq_iff_eq⟩) (fun k => encView_same 9999 k)

theorem in_124 (k q : (Int × Int)) (n : Nat) (w : World) : (Op.equalIn (n + 2) 124 (encName k) (encName q)).run Try.prog w = .ok (k == q) w :=
  eqAgg et_124 fun fs0 h0 => eqF h0 ac_3 rfl rfl (run_equalIn_int w (n + 0) 3 _ _ _ _ Try.underlying3) fun fs1 h1 => eqL h1 ac_31 rfl rfl (run_equalIn_int w (n + 0) 31 _ _ _ _ Try.underlying31)
theorem eq_124 (k q : (Int × Int)) (w : World) : (Op.equal 124 (encName k) (encName q)).run Try.prog w = .ok (k == q) w := in_124 k q 9998 w
theorem chk_124 (em : Bool) (n : Nat) (k : (Int × Int)) (w : World) : (Instr.checkKey em (n + 2) 124 (encName k)).run Try.prog w = .ok () w := by
  refine chkAgg et_124 fun p hp => ?_
  simp only [List.mem_cons, List.not_mem_nil, or_false] at hp
  rcases hp with rfl | rfl
  · exact ⟨rfl, _, _, ac_3, rfl, chkInt Try.underlying3⟩
  · exact ⟨rfl, _, _, ac_31, rfl, chkInt Try.underlying31⟩
theorem key_124 : KeyT Try.prog 124 encName := KeyT.struct (wide_of et_124) encName_inj (fun em k w => chk_124 em 9998 k w) (fun a b w => ⟨a == b, eq_124 a b w, beq_iff_eq⟩) (fun k => encName_same 9999 k)

theorem in_77 (k q : ((Int × Int) × Int × Int)) (n : Nat) (w : World) : (Op.equalIn (n + 3) 77 (encSent k) (encSent q)).run Try.prog w = .ok (k == q) w :=
  eqAgg et_77 fun fs0 h0 => eqF h0 ac_30 rfl rfl (in_30 k.1 q.1 (n + 0) w) fun fs1 h1 => eqF h1 ac_3 rfl rfl (run_equalIn_int w (n + 1) 3 _ _ _ _ Try.underlying3) fun fs2 h2 => eqL h2 ac_31 rfl rfl (run_equalIn_int w (n + 1) 31 _ _ _ _ Try.underlying31)
theorem eq_77 (k q : ((Int × Int) × Int × Int)) (w : World) : (Op.equal 77 (encSent k) (encSent q)).run Try.prog w = .ok (k == q) w := in_77 k q 9997 w
theorem chk_77 (em : Bool) (n : Nat) (k : ((Int × Int) × Int × Int)) (w : World) : (Instr.checkKey em (n + 3) 77 (encSent k)).run Try.prog w = .ok () w := by
  refine chkAgg et_77 fun p hp => ?_
  simp only [List.mem_cons, List.not_mem_nil, or_false] at hp
  rcases hp with rfl | rfl | rfl
  · exact ⟨rfl, _, _, ac_30, rfl, chk_30 em _ k.1 w⟩
  · exact ⟨rfl, _, _, ac_3, rfl, chkInt Try.underlying3⟩
  · exact ⟨rfl, _, _, ac_31, rfl, chkInt Try.underlying31⟩
theorem key_77 : KeyT Try.prog 77 encSent := KeyT.struct (wide_of et_77) encSent_inj (fun em k w => chk_77 em 9997 k w) (fun a b w => ⟨a == b, eq_77 a b w, beq_iff_eq⟩) (fun k => encSent_same 9999 k)

theorem in_94 (k q : ((Int × Int) × Int × Int)) (n : Nat) (w : World) : (Op.equalIn (n + 3) 94 (encSent k) (encSent q)).run Try.prog w = .ok (k == q) w :=
  eqAgg et_94 fun fs0 h0 => eqF h0 ac_30 rfl rfl (in_30 k.1 q.1 (n + 0) w) fun fs1 h1 => eqF h1 ac_3 rfl rfl (run_equalIn_int w (n + 1) 3 _ _ _ _ Try.underlying3) fun fs2 h2 => eqL h2 ac_31 rfl rfl (run_equalIn_int w (n + 1) 31 _ _ _ _ Try.underlying31)
theorem eq_94 (k q : ((Int × Int) × Int × Int)) (w : World) : (Op.equal 94 (encSent k) (encSent q)).run Try.prog w = .ok (k == q) w := in_94 k q 9997 w
theorem chk_94 (em : Bool) (n : Nat) (k : ((Int × Int) × Int × Int)) (w : World) : (Instr.checkKey em (n + 3) 94 (encSent k)).run Try.prog w = .ok () w := by
  refine chkAgg et_94 fun p hp => ?_
  simp only [List.mem_cons, List.not_mem_nil, or_false] at hp
  rcases hp with rfl | rfl | rfl
  · exact ⟨rfl, _, _, ac_30, rfl, chk_30 em _ k.1 w⟩
  · exact ⟨rfl, _, _, ac_3, rfl, chkInt Try.underlying3⟩
  · exact ⟨rfl, _, _, ac_31, rfl, chkInt Try.underlying31⟩
theorem key_94 : KeyT Try.prog 94 encSent := KeyT.struct (wide_of et_94) encSent_inj (fun em k w => chk_94 em 9997 k w) (fun a b w => ⟨a == b, eq_94 a b w, beq_iff_eq⟩) (fun k => encSent_same 9999 k)

theorem in_80 (k q : (Int × ((Int × Int) × Int × Int))) (n : Nat) (w : World) : (Op.equalIn (n + 4) 80 (encWho k) (encWho q)).run Try.prog w = .ok (k == q) w :=
  eqAgg et_80 fun fs0 h0 => eqF h0 ac_3 rfl rfl (run_equalIn_int w (n + 2) 3 _ _ _ _ Try.underlying3) fun fs1 h1 => eqL h1 ac_77 rfl rfl (in_77 k.2 q.2 (n + 0) w)
theorem eq_80 (k q : (Int × ((Int × Int) × Int × Int))) (w : World) : (Op.equal 80 (encWho k) (encWho q)).run Try.prog w = .ok (k == q) w := in_80 k q 9996 w
theorem chk_80 (em : Bool) (n : Nat) (k : (Int × ((Int × Int) × Int × Int))) (w : World) : (Instr.checkKey em (n + 4) 80 (encWho k)).run Try.prog w = .ok () w := by
  refine chkAgg et_80 fun p hp => ?_
  simp only [List.mem_cons, List.not_mem_nil, or_false] at hp
  rcases hp with rfl | rfl
  · exact ⟨rfl, _, _, ac_3, rfl, chkInt Try.underlying3⟩
  · exact ⟨rfl, _, _, ac_77, rfl, chk_77 em _ k.2 w⟩
theorem key_80 : KeyT Try.prog 80 encWho := KeyT.struct (wide_of et_80) encWho_inj (fun em k w => chk_80 em 9996 k w) (fun a b w => ⟨a == b, eq_80 a b w, beq_iff_eq⟩) (fun k => encWho_same 9999 k)

theorem in_98 (k q : (Int × ((Int × Int) × Int × Int))) (n : Nat) (w : World) : (Op.equalIn (n + 4) 98 (encWho k) (encWho q)).run Try.prog w = .ok (k == q) w :=
  eqAgg et_98 fun fs0 h0 => eqF h0 ac_3 rfl rfl (run_equalIn_int w (n + 2) 3 _ _ _ _ Try.underlying3) fun fs1 h1 => eqL h1 ac_94 rfl rfl (in_94 k.2 q.2 (n + 0) w)
theorem eq_98 (k q : (Int × ((Int × Int) × Int × Int))) (w : World) : (Op.equal 98 (encWho k) (encWho q)).run Try.prog w = .ok (k == q) w := in_98 k q 9996 w
theorem chk_98 (em : Bool) (n : Nat) (k : (Int × ((Int × Int) × Int × Int))) (w : World) : (Instr.checkKey em (n + 4) 98 (encWho k)).run Try.prog w = .ok () w := by
  refine chkAgg et_98 fun p hp => ?_
  simp only [List.mem_cons, List.not_mem_nil, or_false] at hp
  rcases hp with rfl | rfl
  · exact ⟨rfl, _, _, ac_3, rfl, chkInt Try.underlying3⟩
  · exact ⟨rfl, _, _, ac_94, rfl, chk_94 em _ k.2 w⟩
theorem key_98 : KeyT Try.prog 98 encWho := KeyT.struct (wide_of et_98) encWho_inj (fun em k w => chk_98 em 9996 k w) (fun a b w => ⟨a == b, eq_98 a b w, beq_iff_eq⟩) (fun k => encWho_same 9999 k)

theorem in_113 (k q : ((Int × Int) × (Int × Int))) (n : Nat) (w : World) : (Op.equalIn (n + 3) 113 (encPass k) (encPass q)).run Try.prog w = .ok (k == q) w :=
  eqAgg et_113 fun fs0 h0 => eqF h0 ac_30 rfl rfl (in_30 k.1 q.1 (n + 0) w) fun fs1 h1 => eqL h1 ac_30 rfl rfl (in_30 k.2 q.2 (n + 0) w)
theorem eq_113 (k q : ((Int × Int) × (Int × Int))) (w : World) : (Op.equal 113 (encPass k) (encPass q)).run Try.prog w = .ok (k == q) w := in_113 k q 9997 w
theorem chk_113 (em : Bool) (n : Nat) (k : ((Int × Int) × (Int × Int))) (w : World) : (Instr.checkKey em (n + 3) 113 (encPass k)).run Try.prog w = .ok () w := by
  refine chkAgg et_113 fun p hp => ?_
  simp only [List.mem_cons, List.not_mem_nil, or_false] at hp
  rcases hp with rfl | rfl
  · exact ⟨rfl, _, _, ac_30, rfl, chk_30 em _ k.1 w⟩
  · exact ⟨rfl, _, _, ac_30, rfl, chk_30 em _ k.2 w⟩
theorem key_113 : KeyT Try.prog 113 encPass := KeyT.struct (wide_of et_113) encPass_inj (fun em k w => chk_113 em 9997 k w) (fun a b w => ⟨a == b, eq_113 a b w, beq_iff_eq⟩) (fun k => encPass_same 9999 k)
end Go.Proofs.Ytdgdbnkhmdncdaa
