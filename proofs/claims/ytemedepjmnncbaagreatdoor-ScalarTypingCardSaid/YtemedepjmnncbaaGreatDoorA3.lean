import Derived.Test.YtemedepjmnncbaaGreatDoorA2
namespace Go.Proofs.YtemedepjmnncbaaGreatDoor
set_option linter.unusedVariables false
set_option linter.unusedSimpArgs false
open Go.RowKit Pu

set_option maxHeartbeats 400000 in
theorem comparison_c (s : ByteArray) (f : Nat) (w : World) : Calls Tryz.prog 109 #[.string s, .func (.func f) #[] #[]] w fun e w' =>
    ∃ B : Nat, e = .returned (.agg #[.int .i64 (-1), .int .i64 2, .int .i64 2, .string s, .func (.func 135) #[] #[.pointer (some ⟨B, 0, none⟩)]]) ∧ w.heap.size ≤ B ∧ w'.heap[B]? = some (.cells #[.func (.func f) #[] #[]] 70 (0, 0)) ∧ Below w.heap.size w w' := by
  have hmf : ∀ (fn : Fn) (first cap : Array Value) (w : World), (Instr.makeFunc fn first cap).run Tryz.prog w = .ok (.func fn first cap) w := fun _ _ _ _ => rfl
  go_enter Tryz.func109, Tryz.ntmps109
  go_wp2
  refine bodyPost_ret (v := .agg #[.int .i64 (-1), .int .i64 2, .int .i64 2, .string s, .func (.func 135) #[] #[.pointer (some ⟨w.heap.size, 0, none⟩)]]) (by simp [results, Tryz.results109, go_sem]) rfl ⟨_, rfl, Nat.le_refl _, ?_, ?_⟩
  · rw [Below.heap_alloc _ _ _ (by simp), heap_alloc_new]
  · repeat (first | exact Below.refl _ _ | apply ba)

/-! The table of operators. -/
def opnd (o : Nat) : Int := if o ≤ 3 then 0 else if o = 4 then 1 else if o ≤ 10 then -1 else 2
def ores (o : Nat) : Int := if o ≤ 3 then 0 else if o = 4 then 1 else 2
def symB (o : Nat) : ByteArray := ⟨(sym (o : Int)).toArray⟩
/-- The function in the table's row o. -/
def ApV (S : Nat → Prop) (w : World) (o : Nat) (v : Value) : Prop :=
  (o = 0 ∧ v = .func (.func 104) #[] #[]) ∨ (o = 1 ∧ v = .func (.func 105) #[] #[]) ∨ (o = 2 ∧ v = .func (.func 106) #[] #[]) ∨
  (o = 3 ∧ v = .func (.func 107) #[] #[]) ∨ (o = 4 ∧ v = .func (.func 108) #[] #[]) ∨
  (o = 11 ∧ v = .func (.func 116) #[] #[]) ∨ (o = 12 ∧ v = .func (.func 117) #[] #[]) ∨ (o = 13 ∧ v = .func (.func 118) #[] #[]) ∨
  ∃ B g : Nat, v = .func (.func 135) #[] #[.pointer (some ⟨B, 0, none⟩)] ∧ S B ∧ w.heap[B]? = some (.cells #[.func (.func g) #[] #[]] 70 (0, 0)) ∧
    ((o = 5 ∧ g = 110) ∨ (o = 6 ∧ g = 111) ∨ (o = 7 ∧ g = 112) ∨ (o = 8 ∧ g = 113) ∨ (o = 9 ∧ g = 114) ∨ (o = 10 ∧ g = 115))
def OpsAt (S : Nat → Prop) (w : World) (g : Nat) : Prop := ∀ o : Nat, o < 14 → ∃ v, ApV S w o v ∧ w.cell? ⟨g, o * 5, none⟩ = some (.int .i64 (opnd o)) ∧ w.cell? ⟨g, o * 5 + 1, none⟩ = some (.int .i64 (ar (o : Int))) ∧
  w.cell? ⟨g, o * 5 + 2, none⟩ = some (.int .i64 (ores o)) ∧ w.cell? ⟨g, o * 5 + 3, none⟩ = some (.string (symB o)) ∧ w.cell? ⟨g, o * 5 + 4, none⟩ = some v
set_option maxRecDepth 100000 in
set_option maxHeartbeats 2000000 in
theorem operators_c (w : World) : Calls Tryz.prog 86 #[] w fun e w' =>
    ∃ g : Nat, e = .returned (.slice (some ⟨g, 0, none⟩) 14 14) ∧ w.heap.size ≤ g ∧ g < w'.heap.size ∧ OpsAt (fun b => w.heap.size ≤ b ∧ b < w'.heap.size) w' g ∧ Below w.heap.size w w' := by
  go_enter Tryz.func86, Tryz.ntmps86
  go_wp2_with fail
  refine (comparison_c _ _ _).mono ?_
  rintro e w1 ⟨B1, rfl, g1, h1, b1⟩
  have H1 : Hid (w.heap.size ≤ B1 ∧ w1.heap[B1]? = some (.cells #[.func (.func 110) #[] #[]] 70 (0, 0)) ∧ Below w.heap.size w w1) := ⟨g1, h1, b1⟩
  clear g1 h1 b1
  go_wp2_with fail
  refine (comparison_c _ _ _).mono ?_
  rintro e w2 ⟨B2, rfl, g2, h2, b2⟩
  have H2 : Hid (w1.heap.size ≤ B2 ∧ w2.heap[B2]? = some (.cells #[.func (.func 111) #[] #[]] 70 (0, 0)) ∧ Below w1.heap.size w1 w2) := ⟨g2, h2, b2⟩
  clear g2 h2 b2
  go_wp2_with fail
  refine (comparison_c _ _ _).mono ?_
  rintro e w3 ⟨B3, rfl, g3, h3, b3⟩
  have H3 : Hid (w2.heap.size ≤ B3 ∧ w3.heap[B3]? = some (.cells #[.func (.func 112) #[] #[]] 70 (0, 0)) ∧ Below w2.heap.size w2 w3) := ⟨g3, h3, b3⟩
  clear g3 h3 b3
  go_wp2_with fail
  refine (comparison_c _ _ _).mono ?_
  rintro e w4 ⟨B4, rfl, g4, h4, b4⟩
  have H4 : Hid (w3.heap.size ≤ B4 ∧ w4.heap[B4]? = some (.cells #[.func (.func 113) #[] #[]] 70 (0, 0)) ∧ Below w3.heap.size w3 w4) := ⟨g4, h4, b4⟩
  clear g4 h4 b4
  go_wp2_with fail
  refine (comparison_c _ _ _).mono ?_
  rintro e w5 ⟨B5, rfl, g5, h5, b5⟩
  have H5 : Hid (w4.heap.size ≤ B5 ∧ w5.heap[B5]? = some (.cells #[.func (.func 114) #[] #[]] 70 (0, 0)) ∧ Below w4.heap.size w4 w5) := ⟨g5, h5, b5⟩
  clear g5 h5 b5
  go_wp2_with fail
  refine (comparison_c _ _ _).mono ?_
  rintro e w6 ⟨B6, rfl, g6, h6, b6⟩
  have H6 : Hid (w5.heap.size ≤ B6 ∧ w6.heap[B6]? = some (.cells #[.func (.func 115) #[] #[]] 70 (0, 0)) ∧ Below w5.heap.size w5 w6) := ⟨g6, h6, b6⟩
  clear g6 h6 b6
  go_wp2_with fail
  go_ret
  obtain ⟨g1, h1, b1⟩ := H1.out
  obtain ⟨g2, h2, b2⟩ := H2.out
  obtain ⟨g3, h3, b3⟩ := H3.out
  obtain ⟨g4, h4, b4⟩ := H4.out
  obtain ⟨g5, h5, b5⟩ := H5.out
  obtain ⟨g6, h6, b6⟩ := H6.out
  clear H1 H2 H3 H4 H5 H6
  have s6 := b6.size; have s5 := b5.size; have s4 := b4.size; have s3 := b3.size; have s2 := b2.size; have s1 := b1.size
  refine ⟨_, rfl, by omega, by simp, ?_, ?_⟩
  · have at6 : ∀ (o : Obj) (B : Nat) (x : Obj), w6.heap[B]? = some x → (w6.alloc o).heap[B]? = some x := fun o B x hx => (Below.heap_alloc _ _ _ (Array.getElem?_eq_some_iff.1 hx).1).trans hx
    have lt : ∀ (W : World) (B : Nat) (x : Obj), W.heap[B]? = some x → B < W.heap.size := fun W B x hx => (Array.getElem?_eq_some_iff.1 hx).1
    have k5 : w6.heap[B5]? = _ := (b6.block B5 (lt _ _ _ h5)).trans h5
    have k4 : w6.heap[B4]? = _ := ((bt b5 b6).block B4 (lt _ _ _ h4)).trans h4
    have k3 : w6.heap[B3]? = _ := ((bt b4 (bt b5 b6)).block B3 (lt _ _ _ h3)).trans h3
    have k2 : w6.heap[B2]? = _ := ((bt b3 (bt b4 (bt b5 b6))).block B2 (lt _ _ _ h2)).trans h2
    have k1 : w6.heap[B1]? = _ := ((bt b2 (bt b3 (bt b4 (bt b5 b6)))).block B1 (lt _ _ _ h1)).trans h1
    have l1 := lt _ _ _ k1; have l2 := lt _ _ _ k2; have l3 := lt _ _ _ k3; have l4 := lt _ _ _ k4; have l5 := lt _ _ _ k5; have l6 := lt _ _ _ h6
    intro o ho
    have hc : o = 0 ∨ o = 1 ∨ o = 2 ∨ o = 3 ∨ o = 4 ∨ o = 5 ∨ o = 6 ∨ o = 7 ∨ o = 8 ∨ o = 9 ∨ o = 10 ∨ o = 11 ∨ o = 12 ∨ o = 13 := by omega
    rcases hc with rfl | rfl | rfl | rfl | rfl | rfl | rfl | rfl | rfl | rfl | rfl | rfl | rfl | rfl <;>
      (refine ⟨_, ?_, (by unfold World.cell?; rw [heap_alloc_new]; rfl), (by unfold World.cell?; rw [heap_alloc_new]; rfl), (by unfold World.cell?; rw [heap_alloc_new]; rfl), (by unfold World.cell?; rw [heap_alloc_new]; rfl), (by unfold World.cell?; rw [heap_alloc_new]; rfl)⟩; unfold ApV)
    · exact .inl ⟨rfl, rfl⟩
    · exact .inr (.inl ⟨rfl, rfl⟩)
    · exact .inr (.inr (.inl ⟨rfl, rfl⟩))
    · exact .inr (.inr (.inr (.inl ⟨rfl, rfl⟩)))
    · exact .inr (.inr (.inr (.inr (.inl ⟨rfl, rfl⟩))))
    · exact .inr (.inr (.inr (.inr (.inr (.inr (.inr (.inr ⟨B1, _, rfl, ⟨by omega, by simp; omega⟩, at6 _ _ _ k1, by simp⟩)))))))
    · exact .inr (.inr (.inr (.inr (.inr (.inr (.inr (.inr ⟨B2, _, rfl, ⟨by omega, by simp; omega⟩, at6 _ _ _ k2, by simp⟩)))))))
    · exact .inr (.inr (.inr (.inr (.inr (.inr (.inr (.inr ⟨B3, _, rfl, ⟨by omega, by simp; omega⟩, at6 _ _ _ k3, by simp⟩)))))))
    · exact .inr (.inr (.inr (.inr (.inr (.inr (.inr (.inr ⟨B4, _, rfl, ⟨by omega, by simp; omega⟩, at6 _ _ _ k4, by simp⟩)))))))
    · exact .inr (.inr (.inr (.inr (.inr (.inr (.inr (.inr ⟨B5, _, rfl, ⟨by omega, by simp; omega⟩, at6 _ _ _ k5, by simp⟩)))))))
    · exact .inr (.inr (.inr (.inr (.inr (.inr (.inr (.inr ⟨B6, _, rfl, ⟨by omega, by simp; omega⟩, at6 _ _ _ h6, by simp⟩)))))))
    · exact .inr (.inr (.inr (.inr (.inr (.inl ⟨rfl, rfl⟩)))))
    · exact .inr (.inr (.inr (.inr (.inr (.inr (.inl ⟨rfl, rfl⟩))))))
    · exact .inr (.inr (.inr (.inr (.inr (.inr (.inr (.inl ⟨rfl, rfl⟩)))))))
  · exact ba (bt b1 (bt b2 (bt b3 (bt b4 (bt b5 b6))))) _
end Go.Proofs.YtemedepjmnncbaaGreatDoor
