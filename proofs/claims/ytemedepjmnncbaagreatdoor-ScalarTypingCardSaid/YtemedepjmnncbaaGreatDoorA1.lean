import Derived.Test.YtemedepjmnncbaaGreatDoorRp
import Derived.Test.YtemedepjmnncbaaGreatDoorProg
namespace Go.Proofs.YtemedepjmnncbaaGreatDoor
set_option linter.unusedVariables false
set_option linter.unusedSimpArgs false
open Go.RowKit Pu

set_option maxHeartbeats 400000 in
theorem truth_c (b : Bool) (w : World) : Calls Tryz.prog 68 #[.bool b] w fun e w' => e = .returned (vaV (tr b)) ∧ Below w.heap.size w w' := by
  cases b <;>
  · go_enter Tryz.func68, Tryz.ntmps68
    go_wp2
    refine bodyPost_ret (v := vaV (tr _)) (by simp [results, Tryz.results68, go_sem, tr]; first | rfl | done) rfl ⟨rfl, ?_⟩
    repeat (first | exact Below.refl _ _ | apply ba | apply bd | (refine bs ?_ (by simp) _))
set_option maxHeartbeats 400000 in
theorem rtruth_c (b : Bool) (w : World) : Calls Tryz.prog 69 #[.bool b] w fun e w' => e = .returned (vaV (tr b)) ∧ Below w.heap.size w w' := by
  cases b <;>
  · go_enter Tryz.func69, Tryz.ntmps69
    go_wp2
    refine bodyPost_ret (v := vaV (tr _)) (by simp [results, Tryz.results69, go_sem, tr]; first | rfl | done) rfl ⟨rfl, ?_⟩
    repeat (first | exact Below.refl _ _ | apply ba | apply bd | (refine bs ?_ (by simp) _))

set_option maxHeartbeats 1000000 in
theorem vvalid_c (v : Va) (w : World) : Calls Tryz.prog 22 #[vaV v] w fun e w' => e = .returned (.bool (vvalid v)) ∧ Below w.heap.size w w' := by
  obtain ⟨k, n, s⟩ := v
  go_enter Tryz.func22, Tryz.ntmps22
  go_wp2
  all_goals go_ret
  all_goals (refine ⟨ret_bool ?_, by repeat (first | exact Below.refl _ _ | apply ba)⟩)
  all_goals (simp_all [vvalid, tl_empty, tl_nil])
  all_goals omega
set_option maxHeartbeats 1000000 in
theorem rvvalid_c (v : Va) (w : World) : Calls Tryz.prog 57 #[vaV v] w fun e w' => e = .returned (.bool (vvalid v)) ∧ Below w.heap.size w w' := by
  obtain ⟨k, n, s⟩ := v
  go_enter Tryz.func57, Tryz.ntmps57
  go_wp2
  all_goals go_ret
  all_goals (refine ⟨ret_bool ?_, by repeat (first | exact Below.refl _ _ | apply ba)⟩)
  all_goals (simp_all [vvalid, tl_empty, tl_nil])
  all_goals first | omega | (by_cases h1 : n = 1 <;> simp_all)
end Go.Proofs.YtemedepjmnncbaaGreatDoor
