import Derived.Test.YtemedepjmnncbaaGreatDoorA10
import Derived.Laws.MakeOwn
namespace Go.Proofs.YtemedepjmnncbaaGreatDoor
set_option linter.unusedVariables false
set_option linter.unusedSimpArgs false
open Go.RowKit Go.Shelf Pu

/-! A row of expressions that is being filled. -/
structure FillS (S : Nat → Prop) (w : World) (g n : Nat) (xs : List Sc) : Prop where
  blk : ∃ arr : Array Value, w.heap[g]? = some (Obj.cells arr 26 (0, 0)) ∧ arr.size = n * 7
  row : rowR (scR S w) 7 w g 0 xs
  len : xs.length ≤ n
  out : ¬ S g
abbrev chain7 (w : World) (g o : Nat) (y0 y1 y2 y3 y4 y5 y6 : Value) : World :=
  (((((((w.setCell ⟨g, o, none⟩ y0).setCell ⟨g, o + 1, none⟩ y1).setCell ⟨g, o + 2, none⟩ y2).setCell ⟨g, o + 3, none⟩ y3).setCell ⟨g, o + 4, none⟩ y4).setCell ⟨g, o + 5, none⟩ y5).setCell ⟨g, o + 6, none⟩ y6)
theorem chain7_heap {w : World} {g o t : Nat} {arr : Array Value} {y0 y1 y2 y3 y4 y5 y6 : Value} (h : w.heap[g]? = some (Obj.cells arr t (0, 0))) :
    (chain7 w g o y0 y1 y2 y3 y4 y5 y6).heap[g]? = some (Obj.cells (((((((arr.setIfInBounds o y0).setIfInBounds (o + 1) y1).setIfInBounds (o + 2) y2).setIfInBounds (o + 3) y3).setIfInBounds (o + 4) y4).setIfInBounds (o + 5) y5).setIfInBounds (o + 6) y6) t (0, 0)) :=
  heap_setCell_same _ _ _ _ _ _ (heap_setCell_same _ _ _ _ _ _ (heap_setCell_same _ _ _ _ _ _ (heap_setCell_same _ _ _ _ _ _ (heap_setCell_same _ _ _ _ _ _ (heap_setCell_same _ _ _ _ _ _ (heap_setCell_same _ _ _ _ _ _ h))))))
theorem chain7_other {w : World} {g o k : Nat} {y0 y1 y2 y3 y4 y5 y6 : Value} (h : k ≠ g) : (chain7 w g o y0 y1 y2 y3 y4 y5 y6).heap[k]? = w.heap[k]? := by
  unfold chain7
  rw [heap_setCell_other _ _ _ _ h, heap_setCell_other _ _ _ _ h, heap_setCell_other _ _ _ _ h, heap_setCell_other _ _ _ _ h, heap_setCell_other _ _ _ _ h, heap_setCell_other _ _ _ _ h, heap_setCell_other _ _ _ _ h]
theorem chain7_below {w0 w : World} {g o : Nat} {y0 y1 y2 y3 y4 y5 y6 : Value} (h : Below w0.heap.size w0 w) (hg : w0.heap.size ≤ g) : Below w0.heap.size w0 (chain7 w g o y0 y1 y2 y3 y4 y5 y6) :=
  bs (bs (bs (bs (bs (bs (bs h hg _) hg _) hg _) hg _) hg _) hg _) hg _
theorem chain7_size {w : World} {g o : Nat} {y0 y1 y2 y3 y4 y5 y6 : Value} : (chain7 w g o y0 y1 y2 y3 y4 y5 y6).heap.size = w.heap.size := by simp [chain7]
theorem rowR_snoc {α : Type} {R : α → List Value → Prop} {sz : Nat} {w : World} {b : Nat} {x : α} {cs : List Value} (hR : R x cs) : ∀ {xs : List α} {o : Nat}, rowR R sz w b o xs → (∀ j u, cs[j]? = some u → w.cell? ⟨b, o + xs.length * sz + j, none⟩ = some u) → rowR R sz w b o (xs ++ [x])
  | [], o, _, hc => ⟨⟨cs, hR, fun j u hj => by have := hc j u hj; simpa using this⟩, trivial⟩
  | y :: xs, o, h, hc => ⟨h.1, rowR_snoc hR h.2 fun j u hj => by have := hc j u hj; rw [show o + sz + xs.length * sz + j = o + (y :: xs).length * sz + j by simp [Nat.add_mul]; omega]; exact this⟩
theorem rowR_cells {α : Type} {R R' : α → List Value → Prop} {sz : Nat} {w w' : World} {b : Nat} (hR : ∀ x cs, R x cs → R' x cs ∧ cs.length ≤ sz) : ∀ {xs : List α} {o : Nat}, (∀ j u, j < o + xs.length * sz → w.cell? ⟨b, j, none⟩ = some u → w'.cell? ⟨b, j, none⟩ = some u) → rowR R sz w b o xs → rowR R' sz w' b o xs
  | [], _, _, _ => trivial
  | y :: xs, o, hc, h => by
    obtain ⟨⟨cs, h1, h2⟩, h3⟩ := h
    refine ⟨⟨cs, (hR _ _ h1).1, fun j u hj => hc _ u ?_ (h2 j u hj)⟩, rowR_cells hR (fun j u hj => hc j u (by simp [Nat.add_mul] at hj ⊢; omega)) h3⟩
    have := (hR _ _ h1).2
    have := (List.getElem?_eq_some_iff.1 hj).1
    simp [Nat.add_mul]; omega
theorem scR_len {S : Nat → Prop} {w : World} {x : Sc} {cs : List Value} (h : scR S w x cs) : cs.length = 7 := by
  obtain ⟨A, c, rfl, _⟩ := scR_iff.1 h; rfl
theorem scR_mk {S : Nat → Prop} {w : World} {x : Sc} {A : Option Addr} {c : Nat} (hc : x.f4.length ≤ c) (hr : ScRow S w A x.f4) :
    scR S w x [.int .i64 x.f0, .int .i64 x.f1, .int .i64 x.f2.f0, .int .i64 x.f2.f1, .string x.f2.f2, .int .i64 x.f3, .slice A x.f4.length c] := scR_iff.2 ⟨A, c, rfl, hc, hr⟩
theorem FillS.move {S S' : Nat → Prop} {w w' : World} {g n : Nat} {xs : List Sc} (h : FillS S w g n xs) (hg : w'.heap[g]? = w.heap[g]?) (hS : ∀ b, S b → S' b ∧ w'.heap[b]? = w.heap[b]?) (ho : ¬ S' g) : FillS S' w' g n xs :=
  ⟨hg ▸ h.blk, rowR_move (fun x cs hx => scR_move hS x cs hx) hg h.row, h.len, ho⟩
theorem FillS.store {S : Nat → Prop} {w : World} {g n : Nat} {xs : List Sc} (h : FillS S w g n xs) {x : Sc} {A : Option Addr} {c : Nat} (hc : x.f4.length ≤ c) (hr : ScRow S w A x.f4) (hl : xs.length < n) {k : Nat} (hk : k = xs.length * 7) :
    FillS S (chain7 w g k (.int .i64 x.f0) (.int .i64 x.f1) (.int .i64 x.f2.f0) (.int .i64 x.f2.f1) (.string x.f2.f2) (.int .i64 x.f3) (.slice A x.f4.length c)) g n (xs ++ [x]) := by
  subst hk
  obtain ⟨arr, hb, hs⟩ := h.blk
  have hb' := chain7_heap (o := xs.length * 7) (y0 := .int .i64 x.f0) (y1 := .int .i64 x.f1) (y2 := .int .i64 x.f2.f0) (y3 := .int .i64 x.f2.f1) (y4 := .string x.f2.f2) (y5 := .int .i64 x.f3) (y6 := .slice A x.f4.length c) hb
  have hS : ∀ b, S b → S b ∧ (chain7 w g (xs.length * 7) (.int .i64 x.f0) (.int .i64 x.f1) (.int .i64 x.f2.f0) (.int .i64 x.f2.f1) (.string x.f2.f2) (.int .i64 x.f3) (.slice A x.f4.length c)).heap[b]? = w.heap[b]? :=
    fun b hb => ⟨hb, chain7_other (fun e => h.out (e ▸ hb))⟩
  refine ⟨⟨_, hb', by simp [hs]⟩, rowR_snoc (scR_mk hc (hr.move hS)) (rowR_cells (fun y cs hy => ⟨scR_move hS y cs hy, Nat.le_of_eq (scR_len hy)⟩) ?_ h.row) ?_, by simp; omega, h.out⟩
  · intro j u hj hu
    rw [Nat.zero_add] at hj
    have h1 : arr.toList[j]? = some u := by
      have := hu
      unfold World.cell? at this
      simp only [hb] at this
      simpa using this
    refine blk_cell hb' j ?_
    simp only [Array.toList_setIfInBounds]
    rw [List.getElem?_set_ne (by omega), List.getElem?_set_ne (by omega), List.getElem?_set_ne (by omega), List.getElem?_set_ne (by omega), List.getElem?_set_ne (by omega), List.getElem?_set_ne (by omega), List.getElem?_set_ne (by omega)]
    exact h1
  · intro j u hj
    rw [Nat.zero_add]
    have hj7 : j < 7 := (List.getElem?_eq_some_iff.1 hj).1
    have hsz : xs.length * 7 + 7 ≤ arr.size := by rw [hs]; have : (xs.length + 1) * 7 ≤ n * 7 := Nat.mul_le_mul_right 7 hl; omega
    refine blk_cell hb' _ ?_
    simp only [Array.toList_setIfInBounds]
    have hc : j = 0 ∨ j = 1 ∨ j = 2 ∨ j = 3 ∨ j = 4 ∨ j = 5 ∨ j = 6 := by omega
    rcases hc with rfl | rfl | rfl | rfl | rfl | rfl | rfl <;> (simp at hj; subst hj) <;> simp [List.getElem?_set] <;> omega
theorem FillS.done {S : Nat → Prop} {w : World} {g n : Nat} {xs : List Sc} (h : FillS S w g n xs) (hn : xs.length ≤ 1000) : ScRow (fun b => b = g ∨ S b) w (some ⟨g, 0, none⟩) xs :=
  ⟨by omega, .inr ⟨g, 0, rfl, .inl rfl, rowR_move (fun x cs hx => scR_move (fun b hb => ⟨.inr hb, rfl⟩) x cs hx) rfl h.row⟩⟩
/-- The cells that the next store meets. -/
theorem FillS.free {S : Nat → Prop} {w : World} {g n : Nat} {xs : List Sc} (h : FillS S w g n xs) {k : Nat} (hk : k < n) : ∃ v0 v1 v2 v3 v4 v5 v6, w.cell? ⟨g, k * 7, none⟩ = some v0 ∧ w.cell? ⟨g, k * 7 + 1, none⟩ = some v1 ∧ w.cell? ⟨g, k * 7 + 2, none⟩ = some v2 ∧ w.cell? ⟨g, k * 7 + 3, none⟩ = some v3 ∧ w.cell? ⟨g, k * 7 + 4, none⟩ = some v4 ∧ w.cell? ⟨g, k * 7 + 5, none⟩ = some v5 ∧ w.cell? ⟨g, k * 7 + 6, none⟩ = some v6 ∧ ∀ j, w.frozen? ⟨g, j, none⟩ = false := by
  obtain ⟨arr, hb, hs⟩ := h.blk
  have hsz : k * 7 + 7 ≤ arr.toList.length := by rw [Array.length_toList, hs]; have : (k + 1) * 7 ≤ n * 7 := Nat.mul_le_mul_right 7 hk; omega
  have hc : ∀ j, (hj : j < arr.toList.length) → w.cell? ⟨g, j, none⟩ = some arr.toList[j] := fun j hj => blk_cell hb j (List.getElem?_eq_getElem hj)
  exact ⟨_, _, _, _, _, _, _, hc _ (by omega), hc _ (by omega), hc _ (by omega), hc _ (by omega), hc _ (by omega), hc _ (by omega), hc _ (by omega), fun j => blk_free hb j⟩
theorem FillS.make {S : Nat → Prop} {w : World} {g n : Nat} {xs : List Value} {base cap : Nat} (hown : w.ownsRow base 26 7 (.slice (some ⟨g, 0, none⟩) n n) n xs) (ho : ¬ S g) : FillS S w g n [] := by
  obtain ⟨_, h2⟩ := hown
  rcases h2 with ⟨h2, _⟩ | ⟨g', cap, cur, e, _, h3, _, _, h5, _⟩
  · cases h2
  · cases e
    exact ⟨⟨cur, h3, h5⟩, trivial, by simp, ho⟩
end Go.Proofs.YtemedepjmnncbaaGreatDoor
