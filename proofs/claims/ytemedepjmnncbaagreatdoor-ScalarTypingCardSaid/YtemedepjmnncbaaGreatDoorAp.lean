import Derived.Test.YtemedepjmnncbaaGreatDoorA7
import Derived.Maps.AppendAt
namespace Go.Proofs.YtemedepjmnncbaaGreatDoor
set_option linter.unusedVariables false
set_option linter.unusedSimpArgs false
open Go.RowKit Go.Shelf Pu

/-! Slices that the call owns, as rows; append of one element. -/
section
variable {α : Type} {R : α → List Value → Prop} {sz : Nat} {w w' : World} {base : Nat} {e : TypeId} {v : Value} {n : Nat} {xs : List Value}
theorem own_below (h : w.ownsRow base e sz v n xs) (hb : Below w.heap.size w w') : w'.ownsRow base e sz v n xs := by
  obtain ⟨h1, h2⟩ := h
  refine ⟨h1, ?_⟩
  rcases h2 with h2 | ⟨g, cap, cur, e1, h3, h4, h5⟩
  · exact .inl h2
  · exact .inr ⟨g, cap, cur, e1, h3, bk hb h4, h5⟩
/-- Its rows, element by element. -/
def RowL (R : α → List Value → Prop) (sz : Nat) : List α → List Value → Prop
  | [], xs => xs = []
  | x :: l, xs => ∃ cs ys, xs = cs ++ ys ∧ cs.length = sz ∧ R x cs ∧ RowL R sz l ys
theorem RowL.length {l : List α} : ∀ {xs : List Value}, RowL R sz l xs → xs.length = l.length * sz := by
  induction l with
  | nil => intro xs h; simp [RowL] at h; simp [h]
  | cons x l ih =>
    rintro xs ⟨cs, ys, rfl, h1, _, h2⟩
    rw [List.length_append, ih h2, h1, List.length_cons, Nat.add_mul]; omega
theorem RowL.append {l : List α} {x : α} {cs : List Value} (hc : cs.length = sz) (hR : R x cs) : ∀ {xs : List Value}, RowL R sz l xs → RowL R sz (l ++ [x]) (xs ++ cs) := by
  induction l with
  | nil => intro xs h; simp [RowL] at h; subst h; exact ⟨cs, [], by simp, hc, hR, rfl⟩
  | cons y l ih =>
    rintro xs ⟨ds, ys, rfl, h1, h2, h3⟩
    exact ⟨ds, ys ++ cs, by simp, h1, h2, ih h3⟩
theorem RowL.mono {R' : α → List Value → Prop} (hR : ∀ x cs, R x cs → R' x cs) {l : List α} : ∀ {xs : List Value}, RowL R sz l xs → RowL R' sz l xs := by
  induction l with
  | nil => intro xs h; exact h
  | cons y l ih =>
    rintro xs ⟨ds, ys, rfl, h1, h2, h3⟩
    exact ⟨ds, ys, rfl, h1, hR _ _ h2, ih h3⟩
theorem RowL.rowR {b : Nat} {l : List α} : ∀ {xs : List Value} {o : Nat}, RowL R sz l xs → (∀ j u, xs[j]? = some u → w.cell? ⟨b, o + j, none⟩ = some u) → rowR R sz w b o l := by
  induction l with
  | nil => intro xs o _ _; trivial
  | cons y l ih =>
    rintro xs o ⟨ds, ys, rfl, h1, h2, h3⟩ hc
    refine ⟨⟨ds, h2, fun j u hj => hc j u ?_⟩, ih h3 fun j u hj => ?_⟩
    · rw [List.getElem?_append_left (List.getElem?_eq_some_iff.1 hj).1]; exact hj
    · rw [show o + sz + j = o + (sz + j) by omega]
      refine hc _ u ?_
      rw [List.getElem?_append_right (by omega), h1, show sz + j - sz = j by omega]; exact hj
theorem own_row {l : List α} (h : w.ownsRow base e sz v l.length xs) (hR : RowL R sz l xs) :
    ∃ A c, v = .slice A l.length c ∧ l.length ≤ c ∧ Row R sz (fun b => base ≤ b ∧ b < w.heap.size) w A l := by
  obtain ⟨h1, h2⟩ := h
  rcases h2 with ⟨h2, h3⟩ | ⟨g, cap, cur, e1, h3, h4, h5, h6, h7, h8⟩
  · have : l = [] := List.length_eq_zero_iff.1 h3
    subst this
    exact ⟨none, 0, h2, by simp, Row.nil _⟩
  · refine ⟨some ⟨g, 0, none⟩, cap, e1, h5, by unfold maxLen at h6; omega, .inr ⟨g, 0, rfl, ⟨h3, heap_lt h4⟩, RowL.rowR hR fun j u hj => ?_⟩⟩
    rw [Nat.zero_add]
    refine blk_cell h4 j ?_
    rw [← h8] at hj
    rw [List.getElem?_take] at hj
    split at hj
    · exact hj
    · cases hj
theorem own_grown {B : Nat} {w0 : World} (h : Below B w0 w) (hB : B ≤ w.heap.size) (hown : w.ownsRow base e sz v n xs) (hb : B ≤ base) (hg : w.grownBy w' v.ownBlock) : Below B w0 w' :=
  h.grown hg hB fun k hk => Nat.le_trans hb (hown.lt k hk).1
/-- A block that is not the row's. -/
theorem grown_block {g : Nat} {x : Obj} (hown : w.ownsRow base e sz v n xs) (hg : w.grownBy w' v.ownBlock) (hb : w.heap[g]? = some x) (hlt : g < base) : w'.heap[g]? = some x :=
  (hg.block g (heap_lt hb) fun h => by have := (hown.lt g h.symm).1; omega).trans hb
end

theorem inf_of {P : Program} {t s b : Nat} {z : Value} (h : (P.info? t).map (fun i => (i.size, i.bytes, i.zero)) = some (s, b, some z)) : ∃ i, P.info? t = some i ∧ i.size = s ∧ i.bytes = b ∧ i.zero = some z := by
  cases hi : P.info? t with
  | none => rw [hi] at h; cases h
  | some i => rw [hi] at h; simp at h; exact ⟨i, rfl, h.1, h.2.1, h.2.2⟩

theorem inf_int : ∃ i, Tryz.prog.info? 3 = some i ∧ i.size = 1 ∧ i.bytes = 8 ∧ i.zero = some (.int .i64 0) := inf_of (by kernel_rfl)

theorem inf_value : ∃ i, Tryz.prog.info? 23 = some i ∧ i.size = 3 ∧ i.bytes = 32 ∧ i.zero = some (.agg #[.int .i64 0, .int .i64 0, .string ⟨#[]⟩]) := inf_of (by kernel_rfl)

theorem inf_scalar : ∃ i, Tryz.prog.info? 26 = some i ∧ i.size = 7 ∧ i.bytes = 80 ∧ i.zero = some (.agg #[.int .i64 0, .int .i64 0, .int .i64 0, .int .i64 0, .string ⟨#[]⟩, .int .i64 0, .slice none 0 0]) := inf_of (by kernel_rfl)
section
variable {ops : Array Oper} {rest : List Oper} {o : Oper} {a : Act} {Q : Exit → Act → World → Prop} {w : World}

theorem append_int (hgd : o.guard = none) (s x : Operand) (ho : o.op = .call { callee := .builtin .append, args := #[s, x], argTypes := #[42, 42] }) (base : Nat) (v : Value) (n : Nat) (xs : List Value) (hs : a.eval s = v) (hown : w.ownsRow base 3 1 v n xs)
    (ad : Addr) (c : Nat) (news : List Value) (hx : a.eval x = .slice (some ad) 1 c) (hl : news.length = 1) (hc : ∀ j u, news[j]? = some u → w.cell? (ad.add j) = some u) (h1 : ∀ u ∈ news, u.oneCell' = true) (hn : n ≤ 1000000) (hbase : base ≤ w.heap.size)
    (h : ∀ v' w', w'.ownsRow base 3 1 v' (n + 1) (xs ++ news) → w.grownBy w' v.ownBlock → wpList Tryz.prog ops Q rest (a.put o.dst v') w') : wpList Tryz.prog ops Q (o :: rest) a w := by
  obtain ⟨i, hi, e1, e2, e3⟩ := inf_int
  exact wpList_append_own_at _ hgd s x 42 ho base 3 i _ 1 8 Tryz.underlying42 hi e3 e1 e2 rfl (by decide) v n xs hs hown ad 1 c news hx (by omega) hc h1 (by unfold maxLen; omega) (by omega) hbase fun v' w' h1 h2 _ _ => h v' w' h1 h2

theorem append_value (hgd : o.guard = none) (s x : Operand) (ho : o.op = .call { callee := .builtin .append, args := #[s, x], argTypes := #[37, 37] }) (base : Nat) (v : Value) (n : Nat) (xs : List Value) (hs : a.eval s = v) (hown : w.ownsRow base 23 3 v n xs)
    (ad : Addr) (c : Nat) (news : List Value) (hx : a.eval x = .slice (some ad) 1 c) (hl : news.length = 3) (hc : ∀ j u, news[j]? = some u → w.cell? (ad.add j) = some u) (h1 : ∀ u ∈ news, u.oneCell' = true) (hn : n ≤ 1000000) (hbase : base ≤ w.heap.size)
    (h : ∀ v' w', w'.ownsRow base 23 3 v' (n + 1) (xs ++ news) → w.grownBy w' v.ownBlock → wpList Tryz.prog ops Q rest (a.put o.dst v') w') : wpList Tryz.prog ops Q (o :: rest) a w := by
  obtain ⟨i, hi, e1, e2, e3⟩ := inf_value
  exact wpList_append_own_at _ hgd s x 37 ho base 23 i _ 3 32 Tryz.underlying37 hi e3 e1 e2 rfl (by decide) v n xs hs hown ad 1 c news hx (by omega) hc h1 (by unfold maxLen; omega) (by omega) hbase fun v' w' h1 h2 _ _ => h v' w' h1 h2

theorem append_scalar (hgd : o.guard = none) (s x : Operand) (ho : o.op = .call { callee := .builtin .append, args := #[s, x], argTypes := #[24, 24] }) (base : Nat) (v : Value) (n : Nat) (xs : List Value) (hs : a.eval s = v) (hown : w.ownsRow base 26 7 v n xs)
    (ad : Addr) (c : Nat) (news : List Value) (hx : a.eval x = .slice (some ad) 1 c) (hl : news.length = 7) (hc : ∀ j u, news[j]? = some u → w.cell? (ad.add j) = some u) (h1 : ∀ u ∈ news, u.oneCell' = true) (hn : n ≤ 1000000) (hbase : base ≤ w.heap.size)
    (h : ∀ v' w', w'.ownsRow base 26 7 v' (n + 1) (xs ++ news) → w.grownBy w' v.ownBlock → wpList Tryz.prog ops Q rest (a.put o.dst v') w') : wpList Tryz.prog ops Q (o :: rest) a w := by
  obtain ⟨i, hi, e1, e2, e3⟩ := inf_scalar
  exact wpList_append_own_at _ hgd s x 24 ho base 26 i _ 7 80 Tryz.underlying24 hi e3 e1 e2 rfl (by decide) v n xs hs hown ad 1 c news hx (by omega) hc h1 (by unfold maxLen; omega) (by omega) hbase fun v' w' h1 h2 _ _ => h v' w' h1 h2
end
theorem cells_at {W : World} {g t : Nat} {cs : Array Value} {fr : Nat × Nat} (h : W.heap[g]? = some (Obj.cells cs t fr)) : ∀ j u, cs.toList[j]? = some u → W.cell? ((⟨g, 0, none⟩ : Addr).add j) = some u := by
  intro j u hj
  have e : (⟨g, 0, none⟩ : Addr).add j = ⟨g, j, none⟩ := by unfold Addr.add; split <;> simp_all
  rw [e]; exact blk_cell h j hj
end Go.Proofs.YtemedepjmnncbaaGreatDoor
