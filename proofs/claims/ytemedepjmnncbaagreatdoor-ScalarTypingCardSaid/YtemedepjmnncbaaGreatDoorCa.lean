/- ScalarTyping returns true for every input: Valid, Type and Equal answer as the reference does. Conditions: those of the given row (the listed tables hold what the program lays). -/
import Derived.Test.YtemedepjmnncbaaGreatDoorRa
import Derived.Test.YtemedepjmnncbaaGreatDoorCards
import Derived.Test.YtemedepjmnncbaaGreatDoorTie
import Derived.SevenTiedAt
namespace Go.Proofs.YtemedepjmnncbaaGreatDoor
open Go
set_option maxRecDepth 100000 in
/-- ScalarTyping: the tied card. -/
theorem scalarTyping_holds : Rows.ScalarTypingCardSaid :=
  Claim7.holds_tied_plain_at .later [] [.data, .data, .data, .data, .pinned] true Rows.scalarTypingCard.stood.harness false
    typing_row (fun _ h => by cases h) (by kernel_rfl) (fun _ h => by cases h) scalarTyping_row_tie rfl ⟨rfl, rfl⟩ (by kernel_rfl) rfl
    (fun f fn hf hfn => by
      obtain rfl : f = 3 := Option.some.inj ((show Tryz.prog.funcNamed "lineage/lineagelaw26.ScalarTyping" = some 3 by kernel_rfl).symm.trans hf) |>.symm
      obtain rfl : fn = Tryz.f3 := (Option.some.inj (Tryz.func3.symm.trans hfn)).symm
      exact ⟨by kernel_rfl, fun j t ht => by
        rw [Tryz.params3] at ht
        have hm : t ∈ [26, 26, 27] := by simpa using Array.mem_of_getElem? ht
        have hall : ([26, 26, 27].all fun u => !Tryz.prog.wantsStandIn u) = true := by kernel_rfl
        exact (show Tryz.prog.wantsStandIn t = false by simpa using List.all_eq_true.1 hall t hm)⟩)
    (by kernel_rfl)
end Go.Proofs.YtemedepjmnncbaaGreatDoor
