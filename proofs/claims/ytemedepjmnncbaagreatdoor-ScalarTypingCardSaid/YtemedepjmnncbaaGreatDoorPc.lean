import Derived.Test.YtemedepjmnncbaaGreatDoorPu
import Derived.Lib.SlicesCompact
namespace Pu
open Go
set_option linter.unusedVariables false
set_option linter.unusedSimpArgs false

/-! The columns of an expression: sorted, each once. -/
def sortd (l : List Int) : List Int := l.mergeSort fun x y => decide (x ≤ y)
def cols (a : Sc) : List Int := Lib.compact (sortd (refs a))
theorem sortd_le (l : List Int) : (sortd l).Pairwise (· ≤ ·) := by
  have := List.pairwise_mergeSort (le := fun x y : Int => decide (x ≤ y)) (by intro a b c; simp; omega) (by intro a b; simp; omega) l
  simpa [sortd] using this
theorem mem_sortd {x : Int} {l : List Int} : x ∈ sortd l ↔ x ∈ l := by unfold sortd; exact List.mem_mergeSort
theorem upTo_sorted {d : Array Int} (h : ∀ i j, i < j → j < d.size → d[i]! ≤ d[j]!) : ∀ m, m ≤ d.size → (Lib.compactUpTo d m).Pairwise (· < ·) ∧ ∀ x, x ∈ Lib.compactUpTo d m ↔ ∃ i, i < m ∧ d[i]! = x := by
  intro m
  induction m with
  | zero => intro _; exact ⟨by simp [Lib.compactUpTo], by simp [Lib.compactUpTo]⟩
  | succ m ih =>
    intro hm
    obtain ⟨h1, h2⟩ := ih (by omega)
    rw [Lib.compactUpTo_succ]
    by_cases hk : Lib.keeps d m = true
    · rw [if_pos hk]
      refine ⟨?_, ?_⟩
      · rw [List.pairwise_append]
        refine ⟨h1, by simp, ?_⟩
        intro x hx y hy
        simp at hy; subst hy
        obtain ⟨i, hi, rfl⟩ := (h2 x).1 hx
        unfold Lib.keeps at hk; simp at hk
        have hne : d[m]! ≠ d[m - 1]! := by rcases hk with hk | hk; omega; simpa using hk
        have ha : d[i]! ≤ d[m - 1]! := by
          by_cases e : i = m - 1
          · rw [e]; omega
          · exact h i (m - 1) (by omega) (by omega)
        have hb := h (m - 1) m (by omega) (by omega)
        omega
      · intro x
        rw [List.mem_append, h2]
        constructor
        · rintro (⟨i, hi, e⟩ | hx)
          · exact ⟨i, by omega, e⟩
          · simp at hx; exact ⟨m, by omega, by simpa using hx.symm⟩
        · rintro ⟨i, hi, e⟩
          by_cases hi' : i = m
          · right; subst hi'; simp [e]
          · left; exact ⟨i, by omega, e⟩
    · rw [if_neg hk, List.append_nil]
      refine ⟨h1, fun x => ?_⟩
      rw [h2]
      unfold Lib.keeps at hk; simp at hk
      constructor
      · rintro ⟨i, hi, e⟩; exact ⟨i, by omega, e⟩
      · rintro ⟨i, hi, e⟩
        by_cases hi' : i = m
        · refine ⟨m - 1, by omega, ?_⟩
          rw [← e, hi']
          have := hk.2
          simpa using this.symm
        · exact ⟨i, by omega, e⟩
theorem cols_both (a : Sc) : (cols a).Pairwise (· < ·) ∧ ∀ x, x ∈ cols a ↔ x ∈ refs a := by
  have hs := sortd_le (refs a)
  have h := upTo_sorted (d := (sortd (refs a)).toArray) (fun i j hi hj => by
    simp at hj
    rw [List.pairwise_iff_getElem] at hs
    have hi' : i < (sortd (refs a)).length := by omega
    have := hs i j hi' hj hi
    simpa [List.getElem?_eq_getElem hj, List.getElem?_eq_getElem hi'] using this) (sortd (refs a)).length (by simp)
  refine ⟨h.1, fun x => ?_⟩
  show x ∈ Lib.compactUpTo _ _ ↔ _
  rw [h.2, ← mem_sortd, List.mem_iff_getElem]
  constructor
  · rintro ⟨i, hi, e⟩; exact ⟨i, hi, by simpa [List.getElem?_eq_getElem hi] using e⟩
  · rintro ⟨i, hi, e⟩; exact ⟨i, hi, by simpa [List.getElem?_eq_getElem hi] using e⟩
theorem cols_lt (a : Sc) : (cols a).Pairwise (· < ·) := (cols_both a).1
theorem mem_cols {a : Sc} {x : Int} : x ∈ cols a ↔ x ∈ refs a := (cols_both a).2 x
theorem sorted_ext : ∀ {l m : List Int}, l.Pairwise (· < ·) → m.Pairwise (· < ·) → (∀ x, x ∈ l ↔ x ∈ m) → l = m
  | [], [], _, _, _ => rfl
  | [], y :: m, _, _, h => by have := (h y).2 (by simp); cases this
  | x :: l, [], _, _, h => by have := (h x).1 (by simp); cases this
  | x :: l, y :: m, hl, hm, h => by
    rw [List.pairwise_cons] at hl hm
    have hx := (h x).1 (by simp)
    have hy := (h y).2 (by simp)
    have e : x = y := by
      rcases List.mem_cons.1 hx with e | e
      · exact e
      · rcases List.mem_cons.1 hy with e' | e'
        · exact e'.symm
        · have := hm.1 x e; have := hl.1 y e'; omega
    subst e
    have := sorted_ext hl.2 hm.2 fun z => by
      have hz := h z
      simp only [List.mem_cons] at hz
      constructor
      · intro h1
        have := hl.1 z h1
        rcases hz.1 (.inr h1) with e | e
        · omega
        · exact e
      · intro h1
        have := hm.1 z h1
        rcases hz.2 (.inr h1) with e | e
        · omega
        · exact e
    rw [this]
mutual
theorem refs_len : ∀ a : Sc, (refs a).length ≤ size a
  | ⟨k, c, v, o, l⟩ => by
    have := refss_len l
    simp only [refs, size, List.length_append]
    split <;> simp <;> omega
theorem refss_len : ∀ l : List Sc, (refss l).length ≤ sizes l
  | [] => by simp [refss]
  | x :: l => by
    have := refs_len x
    have := refss_len l
    simp only [refss, sizes, List.length_append]; omega
end
theorem sortd_len (l : List Int) : (sortd l).length = l.length := by simp [sortd]
theorem upTo_len (d : Array Int) (m : Nat) : (Lib.compactUpTo d m).length ≤ m := by
  unfold Lib.compactUpTo
  rw [List.length_map]
  exact Nat.le_trans (List.length_filter_le _ _) (by simp)
theorem cols_len (a : Sc) : (cols a).length ≤ size a := Nat.le_trans (upTo_len _ _) (by rw [sortd_len]; exact refs_len a)

/-! The reference's insertion. -/
def putL : List Int → Int → List Int
  | [], n => [n]
  | x :: l, n => if x = n then x :: l else if n < x then n :: x :: l else x :: putL l n
theorem mem_putL {x n : Int} {l : List Int} : x ∈ putL l n ↔ x = n ∨ x ∈ l := by
  induction l with
  | nil => simp [putL]
  | cons y l ih =>
    simp only [putL]
    split
    · rename_i e; subst e; simp
    · split
      · simp
      · simp [ih]; constructor
        · rintro (h | h | h) <;> simp [h]
        · rintro (h | h | h) <;> simp [h]
theorem putL_lt {n : Int} {l : List Int} (h : l.Pairwise (· < ·)) : (putL l n).Pairwise (· < ·) := by
  induction l with
  | nil => simp [putL]
  | cons y l ih =>
    rw [List.pairwise_cons] at h
    simp only [putL]
    split
    · rw [List.pairwise_cons]; exact h
    · split
      · rename_i h1 h2
        rw [List.pairwise_cons, List.pairwise_cons]
        refine ⟨fun z hz => ?_, h⟩
        rcases List.mem_cons.1 hz with e | e
        · omega
        · have := h.1 z e; omega
      · rename_i h1 h2
        rw [List.pairwise_cons]
        refine ⟨fun z hz => ?_, ih h.2⟩
        rcases mem_putL.1 hz with e | e
        · omega
        · exact h.1 z e
theorem putL_in {n : Int} {l : List Int} (h : l.Pairwise (· < ·)) (hn : n ∈ l) : putL l n = l := by
  induction l with
  | nil => cases hn
  | cons y l ih =>
    rw [List.pairwise_cons] at h
    simp only [putL]
    rcases List.mem_cons.1 hn with e | e
    · rw [if_pos e.symm]
    · have := h.1 n e
      rw [if_neg (by omega), if_neg (by omega), ih h.2 e]
theorem putL_end {n : Int} {t : List Int} (h : ∀ y ∈ t, y < n) : putL t n = t ++ [n] := by
  induction t with
  | nil => rfl
  | cons y t ih =>
    have := h y (by simp)
    simp only [putL]
    rw [if_neg (by omega), if_neg (by omega), ih fun z hz => h z (by simp [hz])]; rfl
theorem putL_here {n x : Int} {t : List Int} (h : ∀ y ∈ t, y < n) (hx : n < x) : putL (t ++ [x]) n = t ++ [n, x] := by
  induction t with
  | nil => simp only [putL, List.nil_append]; rw [if_neg (by omega), if_pos hx]
  | cons y t ih =>
    have := h y (by simp)
    simp only [putL, List.cons_append]
    rw [if_neg (by omega), if_neg (by omega), ih fun z hz => h z (by simp [hz])]
theorem putL_after {n x : Int} {t : List Int} (hd : ∃ y ∈ t, n < y) : putL (t ++ [x]) n = putL t n ++ [x] := by
  induction t with
  | nil => simp at hd
  | cons y t ih =>
    simp only [putL, List.cons_append]
    split
    · rfl
    · split
      · rfl
      · rw [ih ?_]; rfl
        obtain ⟨z, hz, h2⟩ := hd
        rcases List.mem_cons.1 hz with e | e
        · omega
        · exact ⟨z, e, h2⟩
theorem putL_len {n : Int} {l : List Int} : (putL l n).length ≤ l.length + 1 := by
  induction l with
  | nil => simp [putL]
  | cons y l ih => simp only [putL]; split; simp; split <;> simp; omega
mutual
def rcols : Sc → List Int
  | ⟨k, c, _, _, l⟩ => rcolss (if k = 1 then [c] else []) l
def rcolss : List Int → List Sc → List Int
  | acc, [] => acc
  | acc, x :: l => rcolss ((rcols x).foldl putL acc) l
end
theorem foldl_put {m : List Int} : ∀ {acc : List Int}, acc.Pairwise (· < ·) → (m.foldl putL acc).Pairwise (· < ·) ∧ ∀ x, x ∈ m.foldl putL acc ↔ x ∈ acc ∨ x ∈ m := by
  induction m with
  | nil => intro acc h; exact ⟨h, by simp⟩
  | cons y m ih =>
    intro acc h
    obtain ⟨h1, h2⟩ := ih (putL_lt (n := y) h)
    refine ⟨h1, fun x => ?_⟩
    rw [List.foldl_cons, h2, mem_putL, List.mem_cons]
    constructor
    · rintro ((e | e) | e) <;> simp [e]
    · rintro (e | e | e) <;> simp [e]
mutual
theorem rcols_both : ∀ a : Sc, (rcols a).Pairwise (· < ·) ∧ ∀ x, x ∈ rcols a ↔ x ∈ refs a
  | ⟨k, c, v, o, l⟩ => by
    obtain ⟨h1, h2⟩ := rcolss_both l (if k = 1 then [c] else []) (by split <;> simp)
    simp only [rcols, refs]
    exact ⟨h1, fun x => by rw [h2, List.mem_append]⟩
theorem rcolss_both : ∀ (l : List Sc) (acc : List Int), acc.Pairwise (· < ·) → (rcolss acc l).Pairwise (· < ·) ∧ ∀ x, x ∈ rcolss acc l ↔ x ∈ acc ∨ x ∈ refss l
  | [], acc, h => by simp only [rcolss, refss]; exact ⟨h, by simp⟩
  | x :: l, acc, h => by
    obtain ⟨h1, h2⟩ := rcols_both x
    obtain ⟨h3, h4⟩ := foldl_put (m := rcols x) h
    obtain ⟨h5, h6⟩ := rcolss_both l _ h3
    simp only [rcolss, refss]
    refine ⟨h5, fun y => ?_⟩
    rw [h6, h4, h2, List.mem_append, or_assoc]
end
theorem rcols_eq (a : Sc) : rcols a = cols a := sorted_ext (rcols_both a).1 (cols_lt a) fun x => by rw [(rcols_both a).2, mem_cols]
end Pu
