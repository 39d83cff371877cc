import Derived.Test.YtemedepjmnncbaaGreatDoorA1
namespace Go.Proofs.YtemedepjmnncbaaGreatDoor
set_option linter.unusedVariables false
set_option linter.unusedSimpArgs false
open Go.RowKit Pu

/-! A row of whole numbers that is read. -/
abbrev IntRow (S : Nat → Prop) (w : World) (A : Option Addr) (l : List Int) : Prop := Row (intR .i64) 1 S w A l
theorem IntRow.get {S : Nat → Prop} {w : World} {A : Option Addr} {l : List Int} (h : IntRow S w A l) {i : Nat} {x : Int} (hx : l[i]? = some x) :
    ∃ b o, A = some ⟨b, o, none⟩ ∧ S b ∧ w.cell? ⟨b, o + i, none⟩ = some (.int .i64 x) := by
  obtain ⟨b, o, cs, e, hb, h1, h2⟩ := Row.get h hx
  rw [h1] at h2
  exact ⟨b, o, e, hb, by have := h2 0 _ rfl; simpa using this⟩
theorem IntRow.move {S S' : Nat → Prop} {w w' : World} {A : Option Addr} {l : List Int} (h : IntRow S w A l) (hS : ∀ b, S b → S' b ∧ w'.heap[b]? = w.heap[b]?) : IntRow S' w' A l :=
  Row.move h (fun _ _ h => h) hS
theorem IntRow.below {B : Nat} {w w' : World} {A : Option Addr} {l : List Int} (h : IntRow (· < B) w A l) (hb : Below B w w') : IntRow (· < B) w' A l :=
  h.move fun b hB => ⟨hB, hb.block b hB⟩

def accOne (p h k : Int) : Bool := decide (0 ≤ k ∧ k ≤ 2) && decide (k = h) && decide (p < 0 ∨ k = p)
def accB (p n : Int) (ks : List Int) : Bool := decide ((ks.length : Int) = n) && ks.all (accOne p (ks.headD 0))
theorem accB_opRes {o : Int} (h0 : 0 ≤ o) (h1 : o ≤ 13) (p : Int) (hp : p = if o ≤ 3 then 0 else if o = 4 then 1 else if o ≤ 10 then -1 else 2) (ks : List Int) : accB p (ar o) ks = (opRes o ks).isSome := by
  match ks with
  | [] => simp [accB, opRes, ar]; split <;> simp
  | [a] =>
    simp only [accB, opRes, ar, accOne, List.all_cons, List.all_nil, List.headD_cons, List.length_cons, List.length_nil]
    rw [Bool.eq_iff_iff]
    simp only [Bool.and_eq_true, decide_eq_true_eq]
    subst hp
    by_cases c3 : o = 3
    · subst c3; simp; by_cases ha : a = 0 <;> simp [ha]
    · by_cases c13 : o = 13
      · subst c13; simp; by_cases ha : a = 2 <;> simp [ha]
      · simp [c3, c13]
  | [a, b] =>
    simp only [accB, opRes, ar, accOne, List.all_cons, List.all_nil, List.headD_cons, List.length_cons, List.length_nil]
    rw [Bool.eq_iff_iff]
    simp only [Bool.and_eq_true, decide_eq_true_eq]
    subst hp
    have : o = 0 ∨ o = 1 ∨ o = 2 ∨ o = 3 ∨ o = 4 ∨ o = 5 ∨ o = 6 ∨ o = 7 ∨ o = 8 ∨ o = 9 ∨ o = 10 ∨ o = 11 ∨ o = 12 ∨ o = 13 := by omega
    rcases this with rfl | rfl | rfl | rfl | rfl | rfl | rfl | rfl | rfl | rfl | rfl | rfl | rfl | rfl <;>
      (by_cases hab : a = b <;> simp [hab] <;> (try split) <;> (try simp) <;> (try omega))
  | a :: b :: c :: l =>
    have : ¬ (((a :: b :: c :: l).length : Int) = (ar o : Int)) := by unfold ar; split <;> simp <;> omega
    simp [accB, opRes, this]; intro h; exfalso; exact this (by simpa using h)
theorem acc_step {p h0 x h : Int} {ks : List Int} {kk : Nat} (ha : ∀ x ∈ ks.take kk, accOne p h x = true) (hx : ks[kk]? = some x) (hh : h = h0) (hc : accOne p h0 x = true) : ∀ x ∈ ks.take (kk + 1), accOne p h x = true := by
  intro y hy
  rw [List.take_add_one, hx] at hy
  rcases List.mem_append.1 hy with hy | hy
  · exact ha y hy
  · simp at hy; rw [hy, hh]; exact hc
theorem acc_no {p n h0 x : Int} {ks : List Int} {kk : Nat} (hx : ks[kk]? = some x) (hh : ks.headD 0 = h0) (hc : accOne p h0 x = false) : accB p n ks = false := by
  unfold accB
  have hm : x ∈ ks := List.mem_of_getElem? hx
  rw [Bool.and_eq_false_iff]
  right
  rw [List.all_eq_false]
  exact ⟨x, hm, by rw [hh, hc]; simp⟩
theorem acc_yes {p n : Int} {ks : List Int} (hn : (ks.length : Int) = n) (ha : ∀ x ∈ ks.take ks.length, accOne p (ks.headD 0) x = true) : accB p n ks = true := by
  rw [List.take_length] at ha
  unfold accB
  rw [Bool.and_eq_true]
  exact ⟨by simp [hn], List.all_eq_true.2 ha⟩
set_option maxHeartbeats 1000000 in
theorem accepts_c (p n r : Int) (sy : ByteArray) (f : Value) (A : Option Addr) (c : Nat) (ks : List Int) (w : World) (hk : IntRow (· < w.heap.size) w A ks) :
    Calls Tryz.prog 87 #[.agg #[.int .i64 p, .int .i64 n, .int .i64 r, .string sy, f], .slice A ks.length c] w fun e w' => e = .returned (.bool (accB p n ks)) ∧ Below w.heap.size w w' := by
  have hlen := hk.1
  by_cases hn : (ks.length : Int) = n
  · have hn1 : ((ks.length : Int) != n) = false := by simp [hn]
    have HN : Hid ((ks.length : Int) = n) := hn
    clear hn
    go_enter Tryz.func87, Tryz.ntmps87
    go_wp2_with fail
    go_loopg [14] ks.length (fun gg s14 wr => ∃ kk : Nat, kk ≤ ks.length ∧ ks.length - kk ≤ gg ∧ s14 = .int .i64 kk ∧ Hid (∀ x ∈ ks.take kk, accOne p (ks.headD 0) x = true) ∧ Hid (wr = w.alloc (.cells #[.int .i64 p, .int .i64 n, .int .i64 r, .string sy, f] 92)))
    case atStart => exact ⟨0, Nat.zero_le _, by omega, rfl, (fun x hx => by simp at hx), rfl⟩
    case round =>
      obtain ⟨kk, hkk, hg, rfl, HA, HW⟩ := hrel
      have hwr : wr = w.alloc (.cells #[.int .i64 p, .int .i64 n, .int .i64 r, .string sy, f] 92) := HW.out
      subst hwr
      have hb : Below w.heap.size w (w.alloc (.cells #[.int .i64 p, .int .i64 n, .int .i64 r, .string sy, f] 92)) := ba (Below.refl _ _) _
      by_cases hlt : kk < ks.length
      · have hx := List.getElem?_eq_getElem hlt
        have hx0 := List.getElem?_eq_getElem (show 0 < ks.length by omega)
        have hrw := hk.below hb
        obtain ⟨b, o, rfl, hbB, e0⟩ := hrw.get hx
        obtain ⟨b', o', he, _, e1⟩ := hrw.get hx0
        injection he with he
        injection he with he1 he2
        subst he1; subst he2
        rw [Nat.add_zero] at e1
        have hh : ks.headD 0 = ks[0] := by cases ks with | nil => simp at hlt | cons a l => rfl
        have HX : Hid (ks[kk]? = some ks[kk] ∧ ks.headD 0 = ks[0]) := ⟨hx, hh⟩
        clear hx hx0 hh hb hrw hk HW
        generalize ks[kk] = x at *
        generalize ks[0] = h0 at *
        by_cases hacc : accOne p h0 x = true
        · have hacc2 : 0 ≤ x ∧ x ≤ 2 ∧ x = h0 ∧ (p < 0 ∨ x = p) := by simpa [accOne, and_assoc] using hacc
          have HC : Hid (accOne p h0 x = true) := hacc
          obtain ⟨a1, a2, a3, a4⟩ := hacc2
          subst a3
          clear hacc
          rcases a4 with a4 | a4
          · go_wp2_with fail
            go_roundg (ks.length - (kk + 1))
            case measure => omega
            case rel => exact ⟨kk + 1, by omega, by omega, by go_num, acc_step HA.out HX.out.1 HX.out.2 HC.out, rfl⟩
          · subst a4
            go_wp2_with fail
            go_roundg (ks.length - (kk + 1))
            case measure => omega
            case rel => exact ⟨kk + 1, by omega, by omega, by go_num, acc_step HA.out HX.out.1 HX.out.2 HC.out, rfl⟩
        · have HC : Hid (accOne p h0 x = false) := (Bool.not_eq_true _).mp hacc
          have hacc2 : x < 0 ∨ (0 ≤ x ∧ 2 < x) ∨ (0 ≤ x ∧ x ≤ 2 ∧ (x != h0) = true) ∨ (0 ≤ x ∧ x ≤ 2 ∧ (x != h0) = false ∧ 0 ≤ p ∧ (x != p) = true) := by
            simp [accOne] at hacc
            simp
            omega
          clear hacc
          rcases hacc2 with c1 | ⟨c0, c1⟩ | ⟨c0, c1, c2⟩ | ⟨c0, c1, c2, c3, c4⟩ <;>
          · go_wp2_with fail
            go_ret
            exact ⟨ret_bool (acc_no HX.out.1 HX.out.2 HC.out).symm, ba (Below.refl _ _) _⟩
      · have : kk = ks.length := by omega
        subst this
        go_wp2_with fail
        go_ret
        exact ⟨ret_bool (acc_yes HN.out HA.out).symm, ba (Below.refl _ _) _⟩
  · have hn1 : ((ks.length : Int) != n) = true := by simp [hn]
    go_enter Tryz.func87, Tryz.ntmps87
    go_wp2_with fail
    go_ret
    exact ⟨ret_bool (by simp [accB, hn]), ba (Below.refl _ _) _⟩
end Go.Proofs.YtemedepjmnncbaaGreatDoor
