import Derived.Test.YtemedepjmnncbaaGreatDoorB4
namespace Go.Proofs.YtemedepjmnncbaaGreatDoor
set_option linter.unusedVariables false
set_option linter.unusedSimpArgs false
open Go.RowKit Go.Shelf Pu
def resO : Option Int → Int
  | some t => t
  | none => -1
def resP (o : Int) (ks : List Int) : Int := resO (opRes o ks)
theorem resP_un (o a : Int) : resP o [a] = if o = 3 ∧ a = 0 then 0 else if o = 13 ∧ a = 2 then 2 else -1 := by
  simp only [resP, opRes]; split; rfl; split <;> rfl
theorem resP_bin (o a b : Int) : resP o [a, b] = if a ≠ b then -1 else if 0 ≤ o ∧ o ≤ 2 then (if a = 0 then 0 else -1) else if o = 4 then (if a = 1 then 1 else -1) else if 5 ≤ o ∧ o ≤ 10 then (if 0 ≤ a ∧ a ≤ 2 then 2 else -1) else if o = 11 ∨ o = 12 then (if a = 2 then 2 else -1) else -1 := by
  simp only [resP, opRes]
  split; rfl
  split; split <;> rfl
  split; split <;> rfl
  split; split <;> rfl
  split; split <;> rfl
  rfl
theorem resP_len {n : Nat} (hn : n < 14) {ks : List Int} (h : ¬ (ks.length : Int) = arP n) : resP n ks = -1 := by
  have hin : opIn (n : Int) = true := by simp [opIn]; omega
  rw [arP, hin, if_pos rfl] at h
  match ks with
  | [] => rfl
  | [a] =>
    rw [resP_un]
    have : ¬ ((n : Int) = 3 ∨ (n : Int) = 13) := fun e => h (by rw [ar, if_pos e]; rfl)
    rw [if_neg (by omega), if_neg (by omega)]
  | [a, b] =>
    rw [resP_bin]
    have : (n : Int) = 3 ∨ (n : Int) = 13 := Classical.byContradiction fun e => h (by rw [ar, if_neg e]; rfl)
    split; rfl
    rw [if_neg (by omega), if_neg (by omega), if_neg (by omega), if_neg (by omega)]
  | a :: b :: c :: l => rfl
theorem resP_bad {o x : Int} {ks : List Int} (hx : x ∈ ks) (h : x < 0 ∨ 2 < x) : resP o ks = -1 := by
  match ks with
  | [] => rfl
  | [a] =>
    have e : x = a := by simpa using hx
    subst e
    rw [resP_un, if_neg (by omega), if_neg (by omega)]
  | [a, b] =>
    rw [resP_bin]
    by_cases hab : a = b
    · have e : x = a := by rcases List.mem_cons.1 hx with e | e; exact e; rw [hab]; simpa using e
      subst e
      rw [if_neg (by simp [hab])]
      split; rw [if_neg (by omega)]
      split; rw [if_neg (by omega)]
      split; rw [if_neg (by omega)]
      split; rw [if_neg (by omega)]
      rfl
    · rw [if_pos hab]
  | a :: b :: c :: l => rfl
theorem one_ofI {ls : List Int} (h : ls.length = 1) : ls = [ls.headD 0] := by
  match ls, h with
  | [x], _ => rfl
theorem two_ofI {ls : List Int} (h : ls.length = 2) : ls = [ls.headD 0, ls.getD 1 0] := by
  match ls, h with
  | [x, y], _ => rfl
set_option maxRecDepth 100000 in
set_option maxHeartbeats 4000000 in
theorem Result_c (n : Nat) (hn : n < 14) (ks : List Int) (A : Option Addr) (c : Nat) (W : World) (hr : IntRow (· < W.heap.size) W A ks) :
    Calls Tryz.prog 88 #[.int .i64 (n : Int), .slice A ks.length c] W fun e W' => e = .returned (.int .i64 (resP n ks)) ∧ Below W.heap.size W W' := by
  have hlr := hr.1
  go_enter Tryz.func88, Tryz.ntmps88
  go_wp2_with fail
  go_loopg [5] ks.length (fun gg s5 wr => ∃ kk : Nat, kk ≤ ks.length ∧ ks.length - kk ≤ gg ∧ s5 = .int .i64 kk ∧ Hid (∀ x ∈ ks.take kk, 0 ≤ x ∧ x ≤ 2) ∧ Hid (wr = W))
  case atStart => exact ⟨0, Nat.zero_le _, by omega, rfl, by simp [Hid], rfl⟩
  case round =>
    obtain ⟨kk, hkk, hg, rfl, HA, HW⟩ := hrel
    have hwr : wr = W := HW.out
    subst hwr
    by_cases hlt : kk < ks.length
    · have hx := List.getElem?_eq_getElem hlt
      obtain ⟨b, o, rfl, hbS, e0⟩ := IntRow.get hr hx
      have HX : Hid (ks[kk]? = some ks[kk]) := hx
      clear hx
      generalize ks[kk] = x at *
      by_cases hx0 : x < 0
      · have H : Hid _ := hx0
        go_wp2_with fail
        go_ret
        exact ⟨ret_int (resP_bad (List.mem_of_getElem? HX.out) (.inl H.out)).symm, Below.refl _ _⟩
      by_cases hx2 : 2 < x
      · have H : Hid _ := hx2
        go_wp2_with fail
        go_ret
        exact ⟨ret_int (resP_bad (List.mem_of_getElem? HX.out) (.inr H.out)).symm, Below.refl _ _⟩
      have H1 : Hid _ := hx0
      have H2 : Hid _ := hx2
      go_wp2_with fail
      go_roundg (ks.length - (kk + 1))
      case measure => omega
      case rel =>
        refine ⟨kk + 1, by omega, by omega, by go_num, ?_, rfl⟩
        intro y hy
        rw [take_snoc HX.out] at hy
        rcases List.mem_append.1 hy with hy | hy
        · exact HA.out y hy
        · have e : y = x := by simpa using hy
          have h1 : ¬ x < 0 := H1.out
          have h2 : ¬ 2 < x := H2.out
          rw [e]; omega
    · have : kk = ks.length := by omega
      subst this
      have hA : ∀ x ∈ ks, 0 ≤ x ∧ x ≤ 2 := by have h := HA.out; rwa [List.take_length] at h
      have HAA : Hid _ := hA
      clear hlt hg hA
      go_wp2_with fail
      refine (Arity_c _ _).mono ?_
      rintro e w1 ⟨rfl, rfl⟩
      by_cases hl : (ks.length : Int) = arP n
      · have hl' : ((ks.length : Int) != arP n) = false := by simp [hl]
        have HL : Hid _ := hl
        have hin : opIn (n : Int) = true := by simp [opIn]; omega
        have hla : ks.length = ar n := by rw [arP, hin, if_pos rfl] at hl; omega
        clear hl hin
        by_cases hu : (n : Int) = 3 ∨ (n : Int) = 13
        · have h1 : ks.length = 1 := by rw [hla, ar, if_pos hu]
          have hxy := one_ofI h1
          generalize ks.headD 0 = a at hxy
          obtain ⟨b, o, rfl, hbS, e0⟩ := IntRow.get hr (i := 0) (x := a) (by rw [hxy]; rfl)
          have HXY : Hid _ := hxy
          have HU : Hid _ := hu
          have ha := HAA.out a (by rw [hxy]; simp)
          have h1' : (ks.length : Int) = 1 := by omega
          have HAR : Hid (0 ≤ a ∧ a ≤ 2) := ha
          have wz : IntKind.i64.wrap 0 = 0 := by decide
          rw [Nat.add_zero] at e0
          clear hxy hla hu ha
          go_wp2_with fail
          refine region_still 10 (by kernel_rfl) (by kernel_rfl) ?_
          simp only [List.take_succ_cons, List.take_zero, List.drop_succ_cons, List.drop_zero]
          repeat still_step
          refine wpStill_nil ?_
          go_wp2_with fail
          all_goals go_ret
          all_goals refine ⟨ret_int ?_, bd (Below.refl _ _)⟩
          all_goals (rw [HXY.out, resP_un]; have hu := HU.out; have ha := HAR.out)
          all_goals (try simp only [bne_iff_ne, ne_eq, beq_iff_eq, bne_eq_false_iff_eq, beq_eq_false_iff_ne] at *)
          all_goals (split <;> (try split) <;> omega)
        · have h1 : ks.length = 2 := by rw [hla, ar, if_neg hu]
          have hxy := two_ofI h1
          generalize ks.headD 0 = a at hxy
          generalize ks.getD 1 0 = a2 at hxy
          obtain ⟨b, o, rfl, hbS, e0⟩ := IntRow.get hr (i := 0) (x := a) (by rw [hxy]; rfl)
          obtain ⟨b', o', hbo, hbS', e1⟩ := IntRow.get hr (i := 1) (x := a2) (by rw [hxy]; rfl)
          injection hbo with hbo; injection hbo with hb1 hb2; subst hb1; subst hb2
          have HXY : Hid _ := hxy
          have HU : Hid _ := hu
          have ha := HAA.out a (by rw [hxy]; simp)
          have ha2 := HAA.out a2 (by rw [hxy]; simp)
          have h1' : (ks.length : Int) = 2 := by omega
          have HAR : Hid ((0 ≤ a ∧ a ≤ 2) ∧ (0 ≤ a2 ∧ a2 ≤ 2)) := ⟨ha, ha2⟩
          have wo : IntKind.i64.wrap 1 = 1 := by decide
          rw [Nat.add_zero] at e0
          clear hxy hla hu ha ha2
          go_wp2_with fail
          refine region_still 10 (by kernel_rfl) (by kernel_rfl) ?_
          simp only [List.take_succ_cons, List.take_zero, List.drop_succ_cons, List.drop_zero]
          repeat still_step
          refine wpStill_nil ?_
          go_wp2_with fail
          all_goals go_ret
          all_goals refine ⟨ret_int ?_, bd (Below.refl _ _)⟩
          all_goals rw [HXY.out, resP_bin]
          all_goals (try simp only [bne_iff_ne, ne_eq, beq_iff_eq, bne_eq_false_iff_eq, beq_eq_false_iff_ne, Decidable.not_not] at *)
          all_goals (have hu : ¬ ((n : Int) = 3 ∨ (n : Int) = 13) := HU.out; have ha := HAR.out)
          all_goals (repeat' (first | omega | split))
      · have hl' : ((ks.length : Int) != arP n) = true := by simp [hl]
        have HL : Hid _ := hl
        clear hl
        go_wp2_with fail
        go_ret
        exact ⟨ret_int (resP_len hn HL.out).symm, Below.refl _ _⟩
end Go.Proofs.YtemedepjmnncbaaGreatDoor
