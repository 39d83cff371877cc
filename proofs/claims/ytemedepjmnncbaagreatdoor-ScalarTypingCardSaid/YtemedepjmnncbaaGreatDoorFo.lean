import Derived.Test.YtemedepjmnncbaaGreatDoorFi
namespace Go.Proofs.YtemedepjmnncbaaGreatDoor
set_option linter.unusedVariables false
set_option linter.unusedSimpArgs false
open Go.RowKit Go.Shelf Pu

/-! The state of the loop of 'fold'. -/
def consts (xs : List Sc) : List Va := xs.filterMap fun x => if x.f0 = 0 then some x.f2 else none
theorem consts_snoc (xs : List Sc) (x : Sc) : consts (xs ++ [x]) = consts xs ++ (if x.f0 = 0 then [x.f2] else []) := by
  unfold consts; rw [List.filterMap_append]; congr 1; by_cases h : x.f0 = 0 <;> simp [h]
theorem consts_len (xs : List Sc) : (consts xs).length ≤ xs.length := List.length_filterMap_le _ _
structure FoldI (W wr : World) (B0 g n : Nat) (ys : List Sc) (cs : List Va) (v4 v5 : Value) (S : Nat → Prop) : Prop where
  fill : FillS S wr g n ys
  sub : ∀ b, S b → (b < B0 ∨ g < b) ∧ b < wr.heap.size
  low : ∀ b, b < B0 → S b
  o4 : ∃ xs, wr.ownsRow (g + 1) 23 3 v4 cs.length xs ∧ RowL vaR 3 cs xs
  o5 : ∃ xs, wr.ownsRow (g + 1) 3 1 v5 cs.length xs ∧ RowL (intR .i64) 1 (cs.map (·.f0)) xs
  d4 : ∀ b, S b → v4.ownBlock ≠ some b
  d5 : ∀ b, S b → v5.ownBlock ≠ some b
  d45 : ∀ b, v4.ownBlock = some b → v5.ownBlock ≠ some b
theorem FoldI.glt {W wr : World} {B0 g n : Nat} {ys : List Sc} {cs : List Va} {v4 v5 : Value} {S : Nat → Prop} (h : FoldI W wr B0 g n ys cs v4 v5 S) : g < wr.heap.size := by
  obtain ⟨arr, hb, _⟩ := h.fill.blk; exact heap_lt hb
/-- Behind a call: its new blocks may hold rows. -/
theorem FoldI.call {W wr w1 : World} {B0 g n : Nat} {ys : List Sc} {cs : List Va} {v4 v5 : Value} {S : Nat → Prop} (h : FoldI W wr B0 g n ys cs v4 v5 S) (hb : Below wr.heap.size wr w1) :
    FoldI W w1 B0 g n ys cs v4 v5 (fun b => S b ∨ (wr.heap.size ≤ b ∧ b < w1.heap.size)) where
  fill := h.fill.move (hb.block g h.glt) (fun b hS => ⟨.inl hS, hb.block b (h.sub b hS).2⟩) (fun hS => hS.elim h.fill.out fun hS => by have := h.glt; omega)
  sub b hS := hS.elim (fun hS => ⟨(h.sub b hS).1, Nat.lt_of_lt_of_le (h.sub b hS).2 hb.size⟩) fun hS => ⟨.inr (by have := h.glt; omega), hS.2⟩
  low b hb' := .inl (h.low b hb')
  o4 := h.o4.imp fun xs hx => ⟨own_below hx.1 hb, hx.2⟩
  o5 := h.o5.imp fun xs hx => ⟨own_below hx.1 hb, hx.2⟩
  d4 b hS := hS.elim (h.d4 b) fun hS e => by obtain ⟨xs, h1, _⟩ := h.o4; have := (h1.lt b e).2; omega
  d5 b hS := hS.elim (h.d5 b) fun hS e => by obtain ⟨xs, h1, _⟩ := h.o5; have := (h1.lt b e).2; omega
  d45 := h.d45
theorem own_other {w w' : World} {base sz n : Nat} {e : TypeId} {v : Value} {xs : List Value} (h : w.ownsRow base e sz v n xs) (hb : ∀ k, v.ownBlock = some k → w'.heap[k]? = w.heap[k]?) : w'.ownsRow base e sz v n xs := by
  obtain ⟨h1, h2⟩ := h
  refine ⟨h1, ?_⟩
  rcases h2 with h2 | ⟨g, cap, cur, e1, h3, h4, h5⟩
  · exact .inl h2
  · exact .inr ⟨g, cap, cur, e1, h3, (hb g (by rw [e1]; rfl)).trans h4, h5⟩
/-- Behind the store of an element. -/
theorem FoldI.store {W wr : World} {B0 g n k : Nat} {ys : List Sc} {cs : List Va} {v4 v5 : Value} {S : Nat → Prop} (h : FoldI W wr B0 g n ys cs v4 v5 S) {x : Sc} {A : Option Addr} {c : Nat} (hc : x.f4.length ≤ c) (hr : ScRow S wr A x.f4) (hl : ys.length < n) (hk : k = ys.length * 7) :
    FoldI W (chain7 wr g k (.int .i64 x.f0) (.int .i64 x.f1) (.int .i64 x.f2.f0) (.int .i64 x.f2.f1) (.string x.f2.f2) (.int .i64 x.f3) (.slice A x.f4.length c)) B0 g n (ys ++ [x]) cs v4 v5 S where
  fill := h.fill.store hc hr hl hk
  sub b hS := by rw [chain7_size]; exact h.sub b hS
  low := h.low
  o4 := h.o4.imp fun xs hx => ⟨own_other hx.1 fun k hk => chain7_other (by have := (hx.1.lt k hk).1; omega), hx.2⟩
  o5 := h.o5.imp fun xs hx => ⟨own_other hx.1 fun k hk => chain7_other (by have := (hx.1.lt k hk).1; omega), hx.2⟩
  d4 := h.d4
  d5 := h.d5
  d45 := h.d45
/-- Behind both appends of the round. -/
theorem FoldI.app {W w0 w : World} {B0 g n : Nat} {ys : List Sc} {cs : List Va} {v4 v5 v4' v5' : Value} {S : Nat → Prop} {v : Va} {xs4 xs5 : List Value} (h : FoldI W w0 B0 g n ys cs v4 v5 S)
    (hl : Below (g + 1) w0 w) (hs : ∀ b, S b → w.heap[b]? = w0.heap[b]?) (r4 : RowL vaR 3 cs xs4) (r5 : RowL (intR .i64) 1 (cs.map (·.f0)) xs5)
    (h4 : w.ownsRow (g + 1) 23 3 v4' (cs.length + 1) (xs4 ++ [.int .i64 v.f0, .int .i64 v.f1, .string v.f2]) ∧ (v4'.ownBlock = v4.ownBlock ∨ ∃ b, v4'.ownBlock = some b ∧ w0.heap.size ≤ b))
    (h5 : w.ownsRow (g + 1) 3 1 v5' (cs.length + 1) (xs5 ++ [.int .i64 v.f0]) ∧ (v5'.ownBlock = v5.ownBlock ∨ ∃ b, v5'.ownBlock = some b ∧ w0.heap.size ≤ b) ∧ (∀ b, v4'.ownBlock = some b → v5'.ownBlock ≠ some b)) :
    FoldI W w B0 g n ys (cs ++ [v]) v4' v5' S where
  fill := h.fill.move (hl.block g (by omega)) (fun b hb => ⟨hb, hs b hb⟩) h.fill.out
  sub b hb := ⟨(h.sub b hb).1, Nat.lt_of_lt_of_le (h.sub b hb).2 hl.size⟩
  low := h.low
  o4 := ⟨_, by rw [List.length_append]; exact h4.1, RowL.append (R := vaR) (x := v) (cs := [.int .i64 v.f0, .int .i64 v.f1, .string v.f2]) rfl rfl r4⟩
  o5 := ⟨_, by rw [List.length_append]; exact h5.1, by rw [List.map_append]; exact RowL.append (R := intR .i64) (x := v.f0) (cs := [.int .i64 v.f0]) rfl rfl r5⟩
  d4 b hb e := h4.2.elim (fun k => h.d4 b hb (k ▸ e)) fun ⟨b', h1, h2⟩ => by rw [h1] at e; injection e with e; have := (h.sub b hb).2; omega
  d5 b hb e := h5.2.1.elim (fun k => h.d5 b hb (k ▸ e)) fun ⟨b', h1, h2⟩ => by rw [h1] at e; injection e with e; have := (h.sub b hb).2; omega
  d45 := h5.2.2
end Go.Proofs.YtemedepjmnncbaaGreatDoor
