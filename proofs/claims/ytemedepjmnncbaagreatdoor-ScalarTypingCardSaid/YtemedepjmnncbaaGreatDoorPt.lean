import Derived.Test.YtemedepjmnncbaaGreatDoorPu
import Derived.Lib.Replace
import Derived.Lib.ItoaNum
namespace Pu
open Go
set_option linter.unusedVariables false
set_option linter.unusedSimpArgs false

theorem dig_dec (n : Nat) : Lib.decDigits n = dig n := by
  induction n using Nat.strongRecOn with
  | _ n ih =>
    unfold Lib.decDigits dig
    split
    · rfl
    · rw [ih (n / 10) (by omega)]
theorem itoa_lib (n : Int) : Lib.itoa n = itoa n := by
  unfold Lib.itoa itoa
  split
  · rw [dig_dec, show n.natAbs = (-n).toNat by omega]
  · rw [dig_dec]
theorem index39 (b : UInt8) (l : List UInt8) : Lib.index (b :: l) [39] = if b = 39 then 0 else if Lib.index l [39] = -1 then -1 else Lib.index l [39] + 1 := by
  by_cases h : b = 39
  · simp [Lib.index, h]
  · have : ¬ (39 : UInt8) = b := fun e => h e.symm
    simp [Lib.index, h, this]
theorem index_none : ∀ {l : List UInt8}, Lib.index l [39] = -1 → esc l = l
  | [], _ => rfl
  | b :: l, h => by
    rw [index39] at h
    by_cases hb : b = 39
    · simp [hb] at h
    · rw [if_neg hb] at h
      by_cases hi : Lib.index l [39] = -1
      · simp [esc, hb, index_none hi]
      · rw [if_neg hi] at h; have := Lib.index_ge l [39]; omega
theorem count39 : ∀ (f : Nat) (l : List UInt8), l.length < f → Lib.countFrom [39] f l = l.count 39
  | 0, l, h => by omega
  | f + 1, [], _ => by simp [Lib.countFrom, Lib.index]
  | f + 1, b :: l, h => by
    have hl : l.length < f := by simp at h; omega
    unfold Lib.countFrom
    rw [index39]
    by_cases hb : b = 39
    · subst hb
      simp
      rw [count39 f l hl]; omega
    · rw [if_neg hb, List.count_cons_of_ne (by simpa using hb)]
      by_cases hi : Lib.index l [39] = -1
      · rw [if_pos hi]
        have := count39 f l hl
        cases f with
        | zero => omega
        | succ f => unfold Lib.countFrom at this; simp [hi] at this; simp [this]
      · rw [if_neg hi]
        have hge := Lib.index_ge l [39]
        have := count39 (f + 1) l (by omega)
        unfold Lib.countFrom at this
        have h1 : ¬ (Lib.index l [39] == -1) = true := by simpa using hi
        have h2 : ¬ (Lib.index l [39] + 1 == -1) = true := by simp; omega
        rw [if_neg h1] at this
        rw [if_neg h2, ← this]
        have e : (Lib.index l [39] + 1).toNat + [39].length = ((Lib.index l [39]).toNat + ([39] : List UInt8).length) + 1 := by simp; omega
        simp only [List.length_cons, List.length_nil] at e ⊢
        rw [show (Lib.index l [39] + 1).toNat + (0 + 1) = ((Lib.index l [39]).toNat + (0 + 1)) + 1 by omega, List.drop_succ_cons]
theorem replaceK39 : ∀ (l : List UInt8) (k : Nat), l.count 39 ≤ k → Lib.replaceK [39] [39, 39] k l = esc l
  | [], 0, _ => rfl
  | [], k + 1, _ => by simp [Lib.replaceK, Lib.index, esc]
  | b :: l, k, h => by
    by_cases hb : b = 39
    · subst hb
      cases k with
      | zero => simp at h
      | succ k =>
        have := replaceK39 l k (by simp at h; omega)
        simp [Lib.replaceK, index39, esc, this]
    · rw [List.count_cons_of_ne (by simpa using hb)] at h
      have ih := replaceK39 l k h
      simp only [esc, if_neg hb]
      rw [← ih]
      cases k with
      | zero => rfl
      | succ k =>
        unfold Lib.replaceK
        rw [index39, if_neg hb]
        by_cases hi : Lib.index l [39] = -1
        · simp [hi]
        · have hge := Lib.index_ge l [39]
          have h1 : ¬ (Lib.index l [39] == -1) = true := by simpa using hi
          have h2 : ¬ (Lib.index l [39] + 1 == -1) = true := by simp; omega
          rw [if_neg hi, if_neg h1, if_neg h2]
          simp only [List.length_cons, List.length_nil]
          rw [show (Lib.index l [39] + 1).toNat = (Lib.index l [39]).toNat + 1 by omega, show (Lib.index l [39]).toNat + 1 + (0 + 1) = ((Lib.index l [39]).toNat + (0 + 1)) + 1 by omega, List.drop_succ_cons, List.take_succ_cons]
          rfl
theorem esc_lib (l : List UInt8) : Lib.replaceAll l [39] [39, 39] = esc l := by
  unfold Lib.replaceAll Lib.replace
  rw [if_neg (by simp)]
  refine replaceK39 l _ ?_
  unfold Lib.replaceNum
  rw [if_pos (by omega)]
  unfold Lib.count
  rw [count39 _ l (by omega)]
  exact Nat.le_refl _
end Pu
