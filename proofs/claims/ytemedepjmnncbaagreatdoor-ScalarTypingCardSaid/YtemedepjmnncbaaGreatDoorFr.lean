import Derived.Test.YtemedepjmnncbaaGreatDoorFo
import Derived.Test.YtemedepjmnncbaaGreatDoorRg
import Derived.Deep.AppendLies
namespace Go.Proofs.YtemedepjmnncbaaGreatDoor
set_option linter.unusedVariables false
set_option linter.unusedSimpArgs false
open Go.RowKit Go.Shelf Pu
theorem grown_low {g : Nat} {W0 W W' : World} {row : Option Nat} (h : Below (g + 1) W0 W) (hg : W.grownBy W' row) (hB : g + 1 ≤ W0.heap.size) (hr : ∀ k, row = some k → g + 1 ≤ k) : Below (g + 1) W0 W' :=
  h.grown hg (Nat.le_trans hB h.size) hr
theorem grown_own {W W' : World} {base sz n : Nat} {e : TypeId} {v : Value} {xs : List Value} {row : Option Nat} (h : W.ownsRow base e sz v n xs) (hg : W.grownBy W' row) (hne : ∀ k, v.ownBlock = some k → row ≠ some k) : W'.ownsRow base e sz v n xs :=
  own_other h fun k hk => hg.block k (h.lt k hk).2 fun e => hne k hk e.symm
theorem grown_at {W W' : World} {m : Nat} {x : Obj} {row : Option Nat} (h : W.heap[m]? = some x) (hg : W.grownBy W' row) (hne : row ≠ some m) : W'.heap[m]? = some x := (hg.block m (heap_lt h) fun e => hne e.symm).trans h
theorem alloc_grown (W : World) (o : Obj) : W.grownBy (W.alloc o) none := ⟨rfl, rfl, rfl, by simp, fun k hk _ => Below.heap_alloc _ _ _ hk⟩
theorem grown_srow {S : Nat → Prop} {W0 W W' : World} {row : Option Nat} (h : ∀ b, S b → W.heap[b]? = W0.heap[b]?) (hg : W.grownBy W' row) (hlt : ∀ b, S b → b < W0.heap.size) (hsz : W0.heap.size ≤ W.heap.size) (hne : ∀ b, S b → row ≠ some b) : ∀ b, S b → W'.heap[b]? = W0.heap[b]? :=
  fun b hb => (hg.block b (Nat.lt_of_lt_of_le (hlt b hb) hsz) fun e => hne b hb e.symm).trans (h b hb)
theorem lset_self {listed : Array Bool} {i n : Nat} (h : listed.size = n) (hi : i < n) : (listed.setIfInBounds i true).getD i false = true := by simp [h, hi]
section
variable {K : Act → World → Prop} {o : Oper} {a : Act} {Q : Exit → Act → World → Prop} {w : World}
theorem op_append_int (s x : Operand) (ho : o.op = .call { callee := .builtin .append, args := #[s, x], argTypes := #[42, 42] }) (base : Nat) (v : Value) (n : Nat) (xs : List Value) (hs : a.eval s = v) (hown : w.ownsRow base 3 1 v n xs)
    (ad : Addr) (c : Nat) (news : List Value) (hx : a.eval x = .slice (some ad) 1 c) (hl : news.length = 1) (hc : ∀ j u, news[j]? = some u → w.cell? (ad.add j) = some u) (h1 : ∀ u ∈ news, u.oneCell' = true) (hn : n ≤ 1000000) (hbase : base ≤ w.heap.size)
    (h : ∀ g cap w', w'.ownsRow base 3 1 (.slice (some ⟨g, 0, none⟩) (n + 1) cap) (n + 1) (xs ++ news) → w.grownBy w' v.ownBlock → (v.ownBlock = some g ∨ g = w.heap.size) → g < w'.heap.size → K (a.put o.dst (.slice (some ⟨g, 0, none⟩) (n + 1) cap)) w') : o.wp Tryz.prog a w K Q := by
  obtain ⟨i, hi, e1, e2, e3⟩ := inf_int
  exact wp_append_lies _ s x 42 ho base 3 i _ 1 8 Tryz.underlying42 hi e3 e1 e2 rfl (by decide) v n xs hs hown ad 1 c news hx (by omega) hc h1 (by omega) (by unfold maxLen; omega) (by omega) hbase _ rfl h
theorem op_append_value (s x : Operand) (ho : o.op = .call { callee := .builtin .append, args := #[s, x], argTypes := #[37, 37] }) (base : Nat) (v : Value) (n : Nat) (xs : List Value) (hs : a.eval s = v) (hown : w.ownsRow base 23 3 v n xs)
    (ad : Addr) (c : Nat) (news : List Value) (hx : a.eval x = .slice (some ad) 1 c) (hl : news.length = 3) (hc : ∀ j u, news[j]? = some u → w.cell? (ad.add j) = some u) (h1 : ∀ u ∈ news, u.oneCell' = true) (hn : n ≤ 1000000) (hbase : base ≤ w.heap.size)
    (h : ∀ g cap w', w'.ownsRow base 23 3 (.slice (some ⟨g, 0, none⟩) (n + 1) cap) (n + 1) (xs ++ news) → w.grownBy w' v.ownBlock → (v.ownBlock = some g ∨ g = w.heap.size) → g < w'.heap.size → K (a.put o.dst (.slice (some ⟨g, 0, none⟩) (n + 1) cap)) w') : o.wp Tryz.prog a w K Q := by
  obtain ⟨i, hi, e1, e2, e3⟩ := inf_value
  exact wp_append_lies _ s x 37 ho base 23 i _ 3 32 Tryz.underlying37 hi e3 e1 e2 rfl (by decide) v n xs hs hown ad 1 c news hx (by omega) hc h1 (by omega) (by unfold maxLen; omega) (by omega) hbase _ rfl h
end
end Go.Proofs.YtemedepjmnncbaaGreatDoor
