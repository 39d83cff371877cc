import Derived.Test.YtemedepjmnncbaaGreatDoorA6
import Derived.Test.YtemedepjmnncbaaGreatDoorShA
import Derived.StillTailTactics
import Derived.Sort.Walk0
namespace Go.Proofs.YtemedepjmnncbaaGreatDoor
set_option linter.unusedVariables false
set_option linter.unusedSimpArgs false
open Go.RowKit Go.Shelf Pu

/-! Comparing. -/
def cmpI (a b : Int) : Int := if a < b then -1 else if b < a then 1 else 0
set_option maxHeartbeats 400000 in
theorem nan1_c (a : Int) (w : World) : Calls Tryz.prog 142 #[.int .i64 a] w fun e w' => e = .returned (.bool false) ∧ w = w' := by
  go_enter Tryz.func142, Tryz.ntmps142
  go_wp2
  go_ret
  exact ⟨ret_bool (by simp), rfl⟩
set_option maxHeartbeats 400000 in
theorem nan2_c (a : Int) (w : World) : Calls Tryz.prog 161 #[.int .i64 a] w fun e w' => e = .returned (.bool false) ∧ w = w' := by
  go_enter Tryz.func161, Tryz.ntmps161
  go_wp2
  go_ret
  exact ⟨ret_bool (by simp), rfl⟩
set_option maxHeartbeats 400000 in
theorem cmpi_c (a b : Int) (w : World) : Calls Tryz.prog 147 #[.int .i64 a, .int .i64 b] w fun e w' => e = .returned (.int .i64 (cmpI a b)) ∧ w = w' := by
  go_enter Tryz.func147, Tryz.ntmps147
  go_wp2_with (go_at_call 142; refine (nan1_c _ _).mono ?_; rintro e w' ⟨rfl, rfl⟩)
  all_goals go_ret
  all_goals refine ⟨ret_int ?_, rfl⟩
  all_goals (unfold cmpI; split <;> (try split) <;> first | rfl | (exfalso; omega))
set_option maxHeartbeats 400000 in
theorem cmpi64_c (a b : Int) (w : World) : Calls Tryz.prog 148 #[.int .i64 a, .int .i64 b] w fun e w' => e = .returned (.int .i64 (cmpI a b)) ∧ w = w' := by
  go_enter Tryz.func148, Tryz.ntmps148
  go_wp2_with (go_at_call 161; refine (nan2_c _ _).mono ?_; rintro e w' ⟨rfl, rfl⟩)
  all_goals go_ret
  all_goals refine ⟨ret_int ?_, rfl⟩
  all_goals (unfold cmpI; split <;> (try split) <;> first | rfl | (exfalso; omega))
def cmpS (a b : ByteArray) : Int := if a = b then 0 else if ltB a b then -1 else 1
theorem compareBytes_lt : ∀ (a b : List UInt8), Lib.compareBytes a b = if a = b then 0 else if Op.bytesLess a b then -1 else 1
  | [], [] => rfl
  | [], _ :: _ => rfl
  | _ :: _, [] => rfl
  | a :: xs, b :: ys => by
    rw [Lib.compareBytes, compareBytes_lt xs ys, bytesLess_eq, bytesLess_eq]
    by_cases h1 : a < b
    · have : ¬ (a :: xs = b :: ys) := by rintro ⟨⟩; exact absurd h1 (by simp)
      simp [h1, this, List.cons_lt_cons_iff]
    · by_cases h2 : b < a
      · have : ¬ (a :: xs = b :: ys) := by rintro ⟨⟩; exact absurd h2 (by simp)
        have hne : a ≠ b := by rintro rfl; exact absurd h2 (by simp)
        simp [h1, h2, this, List.cons_lt_cons_iff, hne]
      · have e : a = b := UInt8.le_antisymm (UInt8.not_lt.1 h2) (UInt8.not_lt.1 h1)
        subst e
        simp [List.cons_lt_cons_iff]
theorem cmps_c (a b : ByteArray) (w : World) : Calls Tryz.prog 149 #[.string a, .string b] w fun e w' => e = .returned (.int .i64 (cmpS a b)) ∧ w = w' :=
  (Tryz.strings_Compare a b w).mono fun e w' ⟨h1, h2⟩ => ⟨by
    rw [h1, compareBytes_lt]
    unfold cmpS ltB
    simp only [← ByteArray.toList_eq, tl_inj], h2.symm⟩
def orL : List Int → Int
  | [] => 0
  | x :: l => if x ≠ 0 then x else orL l
theorem orL_drop {l : List Int} {k : Nat} {x : Int} (hx : l[k]? = some x) (h : ∀ y ∈ l.take k, y = 0) : (x ≠ 0 → orL l = x) ∧ (x = 0 → ∀ y ∈ l.take (k + 1), y = 0) := by
  induction l generalizing k with
  | nil => simp at hx
  | cons z l ih =>
    cases k with
    | zero =>
      simp at hx; subst hx
      exact ⟨fun hne => by simp [orL, hne], fun he y hy => by simp at hy; rw [hy, he]⟩
    | succ k =>
      have hz : z = 0 := h z (by simp)
      have := ih (k := k) (by simpa using hx) (fun y hy => h y (by simp [hy]))
      exact ⟨fun hne => by simp [orL, hz, this.1 hne], fun he y hy => by
        rw [List.take_succ_cons] at hy
        rcases List.mem_cons.1 hy with rfl | hy
        · exact hz
        · exact this.2 he y hy⟩
theorem orL_zero {l : List Int} (h : ∀ y ∈ l, y = 0) : orL l = 0 := by
  induction l with
  | nil => rfl
  | cons z l ih => simp [orL, h z (by simp), ih fun y hy => h y (by simp [hy])]
set_option maxHeartbeats 800000 in
theorem or_c (A : Option Addr) (c : Nat) (l : List Int) (w : World) (hk : IntRow (fun _ => True) w A l) : Calls Tryz.prog 146 #[.slice A l.length c] w fun e w' => e = .returned (.int .i64 (orL l)) ∧ w = w' := by
  have hlen := hk.1
  go_enter Tryz.func146, Tryz.ntmps146
  go_wp2_with fail
  go_loopg [8] l.length (fun gg s8 wr => ∃ kk : Nat, kk ≤ l.length ∧ l.length - kk ≤ gg ∧ s8 = .int .i64 kk ∧ Hid (∀ y ∈ l.take kk, y = 0) ∧ Hid (w = wr))
  case atStart => exact ⟨0, Nat.zero_le _, by omega, rfl, (fun x hx => by simp at hx), rfl⟩
  case round =>
    obtain ⟨kk, hkk, hg, rfl, HA, HW⟩ := hrel
    obtain rfl := HW.out
    by_cases hlt : kk < l.length
    · have hx := List.getElem?_eq_getElem hlt
      obtain ⟨b, o, rfl, _, e0⟩ := hk.get hx
      have HX : Hid (l[kk]? = some l[kk]) := hx
      clear hx hk HW
      generalize l[kk] = x at *
      by_cases hx0 : x = 0
      · have hx1 : (x != 0) = false := by simp [hx0]
        have HZ : Hid (x = 0) := hx0
        clear hx0
        go_wp2_with fail
        go_roundg (l.length - (kk + 1))
        case measure => omega
        case rel => exact ⟨kk + 1, by omega, by omega, by go_num, (orL_drop HX.out HA.out).2 HZ.out, rfl⟩
      · have hx1 : (x != 0) = true := by simp [hx0]
        have HZ : Hid (x ≠ 0) := hx0
        clear hx0
        go_wp2_with fail
        go_ret
        exact ⟨ret_int ((orL_drop HX.out HA.out).1 HZ.out).symm, rfl⟩
    · have : kk = l.length := by omega
      subst this
      have HA2 : Hid (∀ y ∈ l, y = 0) := by have := HA.out; rwa [List.take_length] at this
      clear HA
      go_wp2_with fail
      go_ret
      exact ⟨ret_int (orL_zero HA2.out).symm, rfl⟩
theorem cmp_or (a b : Va) : orL [cmpI a.f0 b.f0, cmpI a.f1 b.f1, cmpS a.f2 b.f2] = cmpV ltB a b := by
  unfold orL orL orL orL cmpI cmpS cmpV
  by_cases h0 : a.f0 = b.f0
  · by_cases h1 : a.f1 = b.f1
    · by_cases h2 : a.f2 = b.f2
      · simp [h0, h1, h2]
      · simp [h0, h1, h2]; cases ltB a.f2 b.f2 <;> simp
    · simp [h0, h1]; by_cases h3 : a.f1 < b.f1
      · simp [h3]
      · simp [h3, show b.f1 < a.f1 by omega]
  · by_cases h3 : a.f0 < b.f0
    · simp [h0, h3]
    · simp [h0, h3, show b.f0 < a.f0 by omega]
theorem int_block {w : World} {g t : Nat} {l : List Int} {fr : Nat × Nat} (h : w.heap[g]? = some (Obj.cells (l.map (Value.int .i64)).toArray t fr)) (hl : l.length ≤ 9223372036854775807) : IntRow (fun _ => True) w (some ⟨g, 0, none⟩) l := by
  refine ⟨hl, .inr ⟨g, 0, rfl, trivial, ?_⟩⟩
  have key : ∀ (m : List Int) (o : Nat), (∀ i x, m[i]? = some x → w.cell? ⟨g, o + i, none⟩ = some (.int .i64 x)) → rowR (intR .i64) 1 w g o m := by
    intro m
    induction m with
    | nil => intro o _; trivial
    | cons y m ih =>
      intro o hm
      refine ⟨⟨[.int .i64 y], rfl, fun j u hj => ?_⟩, ih (o + 1) fun i x hx => by rw [show o + 1 + i = o + (i + 1) by omega]; exact hm (i + 1) x (by simpa using hx)⟩
      cases j with
      | zero => simp at hj; subst hj; exact hm 0 y (by simp)
      | succ j => simp at hj
  exact key l 0 fun i x hx => by rw [Nat.zero_add]; exact blk_cell h i (by simp [hx])
theorem World.drew_heap (w : World) : w.drew.heap = w.heap := rfl
theorem region_still {P : Program} {id : Nat} {Q : Exit → Act → World → Prop} {a : Act} {w : World} {l : List Oper} (n : Nat) (hm : P.follows .mixedOrders = true) (hB : Region.lexTailB .any l.toArray n = true)
    (h : wpStill P l.toArray w.drew (fun a' => wpList P l.toArray Q (l.drop n) a' w.drew) (l.take n) a) : (Code.region id l.toArray true).wp P Q a w := wp_region_still_tail n hm hB h
theorem flipW {P : Program} {f : Nat} {args : Array Value} {w : World} {v : Value} (h : Calls P f args w fun e w' => e = .returned v ∧ w = w') : Calls P f args w fun e w' => e = .returned v ∧ w' = w := h.mono fun _ _ ⟨h1, h2⟩ => ⟨h1, h2.symm⟩
set_option maxRecDepth 100000 in
set_option maxHeartbeats 1600000 in
theorem compare_c (a b : Va) (w : World) : Calls Tryz.prog 136 #[vaV a, vaV b] w fun e w' => e = .returned (.int .i64 (cmpV ltB a b)) ∧ Below w.heap.size w w' := by
  go_enter Tryz.func136, Tryz.ntmps136
  go_wp2_with fail
  refine region_still 15 (by kernel_rfl) (by kernel_rfl) ?_
  simp only [List.take_succ_cons, List.take_zero, List.drop_succ_cons, List.drop_zero]
  repeat still_step
  still_call (flipW (cmpi_c _ _ _))
  repeat still_step
  still_call (flipW (cmpi64_c _ _ _))
  repeat still_step
  still_call (flipW (cmps_c _ _ _))
  refine wpStill_nil ?_
  go_wp2_with fail
  refine (or_c _ 3 [cmpI a.f0 b.f0, cmpI a.f1 b.f1, cmpS a.f2 b.f2] _ (int_block (t := 3) (fr := (0, 0)) (by rw [World.drew_heap]; exact alloc_at (by simp)) (by simp))).mono ?_
  rintro e w1 ⟨rfl, rfl⟩
  go_wp2_with fail
  go_ret
  exact ⟨ret_int (cmp_or a b), bd (ba (ba (ba (Below.refl _ _) _) _) _)⟩
end Go.Proofs.YtemedepjmnncbaaGreatDoor
