import Derived.WalkKit
import Derived.Deep.LoopGhost
import Derived.Deep.QuietTactic
import Derived.BigQuiet
import Derived.WalkLawsBesides
import Derived.WalkSpells
import Derived.Laws.EntriesVeiled
import Derived.Laws.ResultCell
import Derived.Laws.Tables
import Derived.Shelf.Abstract
import Derived.Test.YtemedepjmnncbaaGreatDoorPu
namespace Go.Proofs.YtemedepjmnncbaaGreatDoor
open Go.RowKit Pu
/-! Rows of values in memory. -/
section
variable {α : Type} {R R' : α → List Value → Prop} {sz : Nat} {S S' : Nat → Prop} {w w' : World}
def rowR (R : α → List Value → Prop) (sz : Nat) (w : World) (b : Nat) : Nat → List α → Prop
  | _, [] => True
  | o, x :: xs => (∃ cs, R x cs ∧ ∀ j u, cs[j]? = some u → w.cell? ⟨b, o + j, none⟩ = some u) ∧ rowR R sz w b (o + sz) xs
def Row (R : α → List Value → Prop) (sz : Nat) (S : Nat → Prop) (w : World) (A : Option Addr) (xs : List α) : Prop :=
  xs.length ≤ 9223372036854775807 ∧ (xs = [] ∨ ∃ b o, A = some ⟨b, o, none⟩ ∧ S b ∧ rowR R sz w b o xs)
theorem rowR_get {b : Nat} : ∀ {xs : List α} {o i : Nat} {x : α}, rowR R sz w b o xs → xs[i]? = some x → ∃ cs, R x cs ∧ ∀ j u, cs[j]? = some u → w.cell? ⟨b, o + i * sz + j, none⟩ = some u
  | [], _, _, _, _, h => by simp at h
  | y :: xs, o, 0, x, h, hx => by
    simp at hx; subst hx
    obtain ⟨cs, h1, h2⟩ := h.1
    exact ⟨cs, h1, fun j u hj => by rw [Nat.zero_mul, Nat.add_zero]; exact h2 j u hj⟩
  | y :: xs, o, i + 1, x, h, hx => by
    obtain ⟨cs, h1, h2⟩ := rowR_get (i := i) h.2 (by simpa using hx)
    exact ⟨cs, h1, fun j u hj => by rw [show o + (i + 1) * sz + j = o + sz + i * sz + j by rw [Nat.add_mul]; omega]; exact h2 j u hj⟩
theorem rowR_move {b : Nat} (hR : ∀ x cs, R x cs → R' x cs) (hb : w'.heap[b]? = w.heap[b]?) : ∀ {xs : List α} {o : Nat}, rowR R sz w b o xs → rowR R' sz w' b o xs
  | [], _, _ => trivial
  | y :: xs, o, h => by
    obtain ⟨⟨cs, h1, h2⟩, h3⟩ := h
    exact ⟨⟨cs, hR _ _ h1, fun j u hj => (World.cell?_of_block (w := w) (a := ⟨b, o + j, none⟩) hb).trans (h2 j u hj)⟩, rowR_move hR hb h3⟩
theorem Row.move {A : Option Addr} {xs : List α} (h : Row R sz S w A xs) (hR : ∀ x cs, R x cs → R' x cs) (hS : ∀ b, S b → S' b ∧ w'.heap[b]? = w.heap[b]?) : Row R' sz S' w' A xs := by
  obtain ⟨h1, h2⟩ := h
  refine ⟨h1, ?_⟩
  rcases h2 with h2 | ⟨b, o, e, hb, h2⟩
  · exact .inl h2
  · exact .inr ⟨b, o, e, (hS b hb).1, rowR_move hR (hS b hb).2 h2⟩
theorem Row.nil (A : Option Addr) : Row R sz S w A [] := ⟨by simp, .inl rfl⟩
theorem Row.get {A : Option Addr} {xs : List α} (h : Row R sz S w A xs) {i : Nat} {x : α} (hx : xs[i]? = some x) :
    ∃ b o cs, A = some ⟨b, o, none⟩ ∧ S b ∧ R x cs ∧ ∀ j u, cs[j]? = some u → w.cell? ⟨b, o + i * sz + j, none⟩ = some u := by
  obtain ⟨_, h2⟩ := h
  rcases h2 with h2 | ⟨b, o, e, hb, h2⟩
  · subst h2; simp at hx
  · obtain ⟨cs, h3, h4⟩ := rowR_get h2 hx
    exact ⟨b, o, cs, e, hb, h3, h4⟩
end

/-! Values, columns, expressions. -/
def vaR (v : Va) (cs : List Value) : Prop := cs = [.int .i64 v.f0, .int .i64 v.f1, .string v.f2]
def coR (v : Co) (cs : List Value) : Prop := cs = [.string v.f0, .int .i64 v.f1]
def intR (k : IntKind) (v : Int) (cs : List Value) : Prop := cs = [.int k v]
mutual
def scR (S : Nat → Prop) (w : World) : Sc → List Value → Prop
  | ⟨k, c, v, o, l⟩, cs => ∃ A cap, cs = [.int .i64 k, .int .i64 c, .int .i64 v.f0, .int .i64 v.f1, .string v.f2, .int .i64 o, .slice A l.length cap] ∧ l.length ≤ cap ∧
      l.length ≤ 9223372036854775807 ∧ (l = [] ∨ ∃ b q, A = some ⟨b, q, none⟩ ∧ S b ∧ scs S w b q l)
def scs (S : Nat → Prop) (w : World) (b : Nat) : Nat → List Sc → Prop
  | _, [] => True
  | q, x :: xs => (∃ cs, scR S w x cs ∧ ∀ j u, cs[j]? = some u → w.cell? ⟨b, q + j, none⟩ = some u) ∧ scs S w b (q + 7) xs
end
theorem scs_eq (S : Nat → Prop) (w : World) (b : Nat) : ∀ q l, scs S w b q l = rowR (scR S w) 7 w b q l
  | _, [] => by simp [scs, rowR]
  | q, x :: xs => by simp only [scs, rowR]; rw [scs_eq]
abbrev ScRow (S : Nat → Prop) (w : World) (A : Option Addr) (l : List Sc) : Prop := Row (scR S w) 7 S w A l
theorem scR_iff {S : Nat → Prop} {w : World} {x : Sc} {cs : List Value} : scR S w x cs ↔ ∃ A cap, cs = [.int .i64 x.f0, .int .i64 x.f1, .int .i64 x.f2.f0, .int .i64 x.f2.f1, .string x.f2.f2, .int .i64 x.f3, .slice A x.f4.length cap] ∧ x.f4.length ≤ cap ∧ ScRow S w A x.f4 := by
  cases x with
  | mk k c v o l => simp only [scR, scs_eq, Row]
theorem scR_move {S S' : Nat → Prop} {w w' : World} (hS : ∀ b, S b → S' b ∧ w'.heap[b]? = w.heap[b]?) (x : Sc) : ∀ cs, scR S w x cs → scR S' w' x cs := by
  refine Sc.rec (motive_1 := fun x => ∀ cs, scR S w x cs → scR S' w' x cs) (motive_2 := fun l => ∀ b q, S b → scs S w b q l → scs S' w' b q l) ?_ ?_ ?_ x
  · intro k c v o l hl cs h
    simp only [scR] at h ⊢
    obtain ⟨A, cap, h1, h2, h3, h4⟩ := h
    refine ⟨A, cap, h1, h2, h3, ?_⟩
    rcases h4 with h4 | ⟨b, q, e, hb, h4⟩
    · exact .inl h4
    · exact .inr ⟨b, q, e, (hS b hb).1, hl b q hb h4⟩
  · intro b q _ _; exact trivial
  · intro y l hy hl b q hb h
    obtain ⟨⟨cs, h1, h2⟩, h3⟩ := h
    exact ⟨⟨cs, hy cs h1, fun j u hj => (World.cell?_of_block (w := w) (a := ⟨b, q + j, none⟩) (hS b hb).2).trans (h2 j u hj)⟩, hl b _ hb h3⟩
theorem ScRow.move {S S' : Nat → Prop} {w w' : World} {A : Option Addr} {l : List Sc} (h : ScRow S w A l) (hS : ∀ b, S b → S' b ∧ w'.heap[b]? = w.heap[b]?) : ScRow S' w' A l :=
  Row.move h (fun x cs => scR_move hS x cs) hS
theorem ScRow.below {B : Nat} {w w' : World} {A : Option Addr} {l : List Sc} (h : ScRow (· < B) w A l) (hb : Below B w w') : ScRow (· < B) w' A l :=
  h.move fun b hB => ⟨hB, hb.block b hB⟩
/-- An element of a row of expressions. -/
theorem ScRow.get {S : Nat → Prop} {w : World} {A : Option Addr} {l : List Sc} (h : ScRow S w A l) {i : Nat} {x : Sc} (hx : l[i]? = some x) :
    ∃ b o A' c', A = some ⟨b, o, none⟩ ∧ S b ∧ x.f4.length ≤ c' ∧ ScRow S w A' x.f4 ∧ w.cell? ⟨b, o + i * 7, none⟩ = some (.int .i64 x.f0) ∧ w.cell? ⟨b, o + i * 7 + 1, none⟩ = some (.int .i64 x.f1) ∧
      w.cell? ⟨b, o + i * 7 + 2, none⟩ = some (.int .i64 x.f2.f0) ∧ w.cell? ⟨b, o + i * 7 + 3, none⟩ = some (.int .i64 x.f2.f1) ∧ w.cell? ⟨b, o + i * 7 + 4, none⟩ = some (.string x.f2.f2) ∧
      w.cell? ⟨b, o + i * 7 + 5, none⟩ = some (.int .i64 x.f3) ∧ w.cell? ⟨b, o + i * 7 + 6, none⟩ = some (.slice A' x.f4.length c') := by
  obtain ⟨b, o, cs, e, hb, h1, h2⟩ := Row.get h hx
  obtain ⟨A', c', rfl, h3, h4⟩ := scR_iff.1 h1
  exact ⟨b, o, A', c', e, hb, h3, h4, h2 0 _ rfl, h2 1 _ rfl, h2 2 _ rfl, h2 3 _ rfl, h2 4 _ rfl, h2 5 _ rfl, h2 6 _ rfl⟩

theorem tl_inj {s t : ByteArray} : s.toList = t.toList ↔ s = t := by
  rw [ByteArray.toList_eq, ByteArray.toList_eq, Array.toList_inj]
  exact ⟨fun h => ByteArray.ext h, fun h => by rw [h]⟩
theorem tl_empty (s : ByteArray) : s.toList.isEmpty = decide (s = ByteArray.empty) := by
  rw [Bool.eq_iff_iff, List.isEmpty_iff, decide_eq_true_iff, show ([] : List UInt8) = ByteArray.empty.toList by rw [ByteArray.toList_eq]; rfl, tl_inj]
theorem tl_nil {s : ByteArray} : s.toList = [] ↔ s = ByteArray.empty := by
  rw [show ([] : List UInt8) = ByteArray.empty.toList by rw [ByteArray.toList_eq]; rfl, tl_inj]
theorem tl_beq (s t : ByteArray) : (s.toList == t.toList) = decide (s = t) := by
  rw [Bool.eq_iff_iff, beq_iff_eq, decide_eq_true_iff, tl_inj]
theorem be : (⟨#[]⟩ : ByteArray) = ByteArray.empty := rfl
theorem len0 {α : Type} (l : List α) : ((l.length : Int) == 0) = decide (l = []) := by cases l <;> simp <;> omega
theorem sz_int (s : ByteArray) (n : Nat) : ((s.size : Int) ≤ (n : Int)) ↔ s.size ≤ n := by omega
/-! What a call leaves alone. -/
theorem ba {w W : World} (h : Below w.heap.size w W) (o : Obj) : Below w.heap.size w (W.alloc o) := h.alloc h.size o
theorem bd {B : Nat} {w W : World} (h : Below B w W) : Below B w W.drew := h.drew
theorem bdn {B : Nat} {w W : World} (h : Below B w W) (n : Nat) : Below B w (W.drewN n) := ⟨h.os, h.tape, h.output, h.size, h.block⟩
theorem bt {w a b : World} (h : Below w.heap.size w a) (k : Below a.heap.size a b) : Below w.heap.size w b := h.trans (k.mono h.size)
theorem bs {w W : World} (h : Below w.heap.size w W) {p : Addr} (hp : w.heap.size ≤ p.block) (u : Value) : Below w.heap.size w (W.setCell p u) := h.setCell hp u
theorem drop_of {α : Type} {l : List α} {k : Nat} {x : α} (h : l[k]? = some x) : l.drop k = x :: l.drop (k + 1) := by
  obtain ⟨hk, rfl⟩ := List.getElem?_eq_some_iff.1 h
  exact List.drop_eq_getElem_cons hk
theorem ret_bool {a b : Bool} (h : a = b) : Ending.returned (.bool a) = .returned (.bool b) := by rw [h]
theorem ret_int {k : IntKind} {a b : Int} (h : a = b) : Ending.returned (.int k a) = .returned (.int k b) := by rw [h]
abbrev vaV (x : Va) : Value := .agg #[.int .i64 x.f0, .int .i64 x.f1, .string x.f2]
abbrev scV (x : Sc) (A : Option Addr) (c : Nat) : Value := .agg #[.int .i64 x.f0, .int .i64 x.f1, .int .i64 x.f2.f0, .int .i64 x.f2.f1, .string x.f2.f2, .int .i64 x.f3, .slice A x.f4.length c]

theorem alloc_at {W : World} {o : Obj} {n : Nat} (h : n = W.heap.size) : (W.alloc o).heap[n]? = some o := by subst h; exact heap_alloc_new _ _
theorem alloc_lt {W : World} {o x : Obj} {n : Nat} (h : W.heap[n]? = some x) : (W.alloc o).heap[n]? = some x := (Below.heap_alloc _ _ _ (Array.getElem?_eq_some_iff.1 h).1).trans h
theorem heap_lt {W : World} {x : Obj} {n : Nat} (h : W.heap[n]? = some x) : n < W.heap.size := (Array.getElem?_eq_some_iff.1 h).1
theorem bk {w W : World} (h : Below w.heap.size w W) {n : Nat} {x : Obj} (hx : w.heap[n]? = some x) : W.heap[n]? = some x := (h.block n (heap_lt hx)).trans hx
theorem bsr {w W : World} (h : Below w.heap.size w W) {g : Nat} (hg : w.heap.size ≤ g) (cs : Array Value) : Below w.heap.size w (W.setRow g cs) :=
  h.trans ⟨rfl, rfl, rfl, by simp, fun k hk => setRow_other W g k cs (by have := h.size; omega)⟩
theorem load_block {P : Program} {w : World} {t g : Nat} {cells : Array Value} {e : Nat} {fr : Nat × Nat} (hb : w.heap[g]? = some (.cells cells e fr)) (ha : ∀ w, (isAgg t).run P w = .ok true w) (hs : ∀ w, (Go.sizeOf t).run P w = .ok cells.size w) :
    (loadVar t ⟨g, 0, none⟩).run P w = .ok (.agg cells) w := by
  have h2 := run_loadCellsFrom (P := P) w ⟨g, 0, none⟩ (fun j => cells.getD j undef) cells.size 0 #[] (fun j hj => by
    have e1 : (⟨g, 0, none⟩ : Addr).add (0 + j) = ⟨g, j, none⟩ := by unfold Addr.add; split <;> simp_all
    rw [e1]
    unfold World.cell?
    simp only [hb]
    simp [hj])
  have h3 : #[] ++ (List.map (fun j => cells.getD (0 + j) undef) (List.range cells.size)).toArray = cells := by
    apply Array.ext
    · simp
    · intro i h1 h2; simp [h2]
  rw [h3] at h2
  have h4 : (loadCells ⟨g, 0, none⟩ cells.size).run P w = .ok cells w := h2
  unfold loadVar
  simp only [Sem.run_bind, ha, hs, Result.andThen_ok, if_true, h4]
  simp
theorem ret1 {P : Program} {w : World} {fn : Func} {p t g : Nat} {cells : Array Value} {e : Nat} {fr : Nat × Nat} {tmps : Array Value} (h : fn.results = #[.cell p t]) (hp : tmps.getD p undef = .pointer (some ⟨g, 0, none⟩))
    (hb : w.heap[g]? = some (.cells cells e fr)) (ha : ∀ w, (isAgg t).run P w = .ok true w) (hs : ∀ w, (Go.sizeOf t).run P w = .ok cells.size w) : (results fn tmps).run P w = .ok (.agg cells) w := by
  have h1 : (asAddr (tmps.getD p undef)).run P w = .ok ⟨g, 0, none⟩ w := by rw [hp]; rfl
  simp only [results, h]
  simp only [List.mapM_cons, List.mapM_nil, Array.mapM_eq_mapM_toList]
  simp [Sem.run_bind, Result.andThen]
  simp only [Array.getD_eq_getD_getElem?] at h1
  rw [h1]
  simp [load_block hb ha hs]
theorem ret2 {P : Program} {w : World} {fn : Func} {p u t g : Nat} {cells : Array Value} {e : Nat} {fr : Nat × Nat} {tmps : Array Value} (h : fn.results = #[.cell p t, .tmp u]) (hp : tmps.getD p undef = .pointer (some ⟨g, 0, none⟩))
    (hb : w.heap[g]? = some (.cells cells e fr)) (ha : ∀ w, (isAgg t).run P w = .ok true w) (hs : ∀ w, (Go.sizeOf t).run P w = .ok cells.size w) : (results fn tmps).run P w = .ok (.tuple #[.agg cells, tmps.getD u undef]) w := by
  have h1 : (asAddr (tmps.getD p undef)).run P w = .ok ⟨g, 0, none⟩ w := by rw [hp]; rfl
  rw [results_cell_tmp h, h1]
  simp [Result.andThen, load_block hb ha hs]
theorem blk_cell {W : World} {g t : Nat} {cs : Array Value} {fr : Nat × Nat} (h : W.heap[g]? = some (Obj.cells cs t fr)) (j : Nat) {v : Value} (hv : cs.toList[j]? = some v) : W.cell? ⟨g, j, none⟩ = some v := by
  unfold World.cell?; simp only [h]; rw [← hv]; simp
theorem blk_free {W : World} {g t : Nat} {cs : Array Value} (h : W.heap[g]? = some (Obj.cells cs t (0, 0))) (j : Nat) : W.frozen? ⟨g, j, none⟩ = false := by
  unfold World.frozen?; simp [h]
theorem set1 {W : World} {g t : Nat} {x0 y0 : Value} (h : W.heap[g]? = some (Obj.cells #[x0] t (0, 0))) : (W.setCell ⟨g, 0, none⟩ y0) = W.setRow g #[y0] := by
  rw [setCell_eq_setRow W g 0 _ t (0, 0) y0 h]
  rfl
theorem set2 {W : World} {g t : Nat} {x0 x1 y0 y1 : Value} (h : W.heap[g]? = some (Obj.cells #[x0, x1] t (0, 0))) : ((W.setCell ⟨g, 0, none⟩ y0).setCell ⟨g, 1, none⟩ y1) = W.setRow g #[y0, y1] := by
  have h0 := setRow_heap W g _ #[y0, x1] t (0, 0) h
  rw [setCell_eq_setRow W g 0 _ t (0, 0) y0 h]
  rw [show (W.setRow g (#[x0, x1].setIfInBounds 0 y0)) = W.setRow g #[y0, x1] from rfl, setCell_eq_setRow _ g 1 _ t (0, 0) y1 h0, setRow_setRow]
  rfl
theorem set3 {W : World} {g t : Nat} {x0 x1 x2 y0 y1 y2 : Value} (h : W.heap[g]? = some (Obj.cells #[x0, x1, x2] t (0, 0))) : (((W.setCell ⟨g, 0, none⟩ y0).setCell ⟨g, 1, none⟩ y1).setCell ⟨g, 2, none⟩ y2) = W.setRow g #[y0, y1, y2] := by
  have h0 := setRow_heap W g _ #[y0, x1, x2] t (0, 0) h
  have h1 := setRow_heap W g _ #[y0, y1, x2] t (0, 0) h
  rw [setCell_eq_setRow W g 0 _ t (0, 0) y0 h]
  rw [show (W.setRow g (#[x0, x1, x2].setIfInBounds 0 y0)) = W.setRow g #[y0, x1, x2] from rfl, setCell_eq_setRow _ g 1 _ t (0, 0) y1 h0, setRow_setRow]
  rw [show (W.setRow g (#[y0, x1, x2].setIfInBounds 1 y1)) = W.setRow g #[y0, y1, x2] from rfl, setCell_eq_setRow _ g 2 _ t (0, 0) y2 h1, setRow_setRow]
  rfl
theorem set5 {W : World} {g t : Nat} {x0 x1 x2 x3 x4 y0 y1 y2 y3 y4 : Value} (h : W.heap[g]? = some (Obj.cells #[x0, x1, x2, x3, x4] t (0, 0))) : (((((W.setCell ⟨g, 0, none⟩ y0).setCell ⟨g, 1, none⟩ y1).setCell ⟨g, 2, none⟩ y2).setCell ⟨g, 3, none⟩ y3).setCell ⟨g, 4, none⟩ y4) = W.setRow g #[y0, y1, y2, y3, y4] := by
  have h0 := setRow_heap W g _ #[y0, x1, x2, x3, x4] t (0, 0) h
  have h1 := setRow_heap W g _ #[y0, y1, x2, x3, x4] t (0, 0) h
  have h2 := setRow_heap W g _ #[y0, y1, y2, x3, x4] t (0, 0) h
  have h3 := setRow_heap W g _ #[y0, y1, y2, y3, x4] t (0, 0) h
  rw [setCell_eq_setRow W g 0 _ t (0, 0) y0 h]
  rw [show (W.setRow g (#[x0, x1, x2, x3, x4].setIfInBounds 0 y0)) = W.setRow g #[y0, x1, x2, x3, x4] from rfl, setCell_eq_setRow _ g 1 _ t (0, 0) y1 h0, setRow_setRow]
  rw [show (W.setRow g (#[y0, x1, x2, x3, x4].setIfInBounds 1 y1)) = W.setRow g #[y0, y1, x2, x3, x4] from rfl, setCell_eq_setRow _ g 2 _ t (0, 0) y2 h1, setRow_setRow]
  rw [show (W.setRow g (#[y0, y1, x2, x3, x4].setIfInBounds 2 y2)) = W.setRow g #[y0, y1, y2, x3, x4] from rfl, setCell_eq_setRow _ g 3 _ t (0, 0) y3 h2, setRow_setRow]
  rw [show (W.setRow g (#[y0, y1, y2, x3, x4].setIfInBounds 3 y3)) = W.setRow g #[y0, y1, y2, y3, x4] from rfl, setCell_eq_setRow _ g 4 _ t (0, 0) y4 h3, setRow_setRow]
  rfl
theorem set7 {W : World} {g t : Nat} {x0 x1 x2 x3 x4 x5 x6 y0 y1 y2 y3 y4 y5 y6 : Value} (h : W.heap[g]? = some (Obj.cells #[x0, x1, x2, x3, x4, x5, x6] t (0, 0))) : (((((((W.setCell ⟨g, 0, none⟩ y0).setCell ⟨g, 1, none⟩ y1).setCell ⟨g, 2, none⟩ y2).setCell ⟨g, 3, none⟩ y3).setCell ⟨g, 4, none⟩ y4).setCell ⟨g, 5, none⟩ y5).setCell ⟨g, 6, none⟩ y6) = W.setRow g #[y0, y1, y2, y3, y4, y5, y6] := by
  have h0 := setRow_heap W g _ #[y0, x1, x2, x3, x4, x5, x6] t (0, 0) h
  have h1 := setRow_heap W g _ #[y0, y1, x2, x3, x4, x5, x6] t (0, 0) h
  have h2 := setRow_heap W g _ #[y0, y1, y2, x3, x4, x5, x6] t (0, 0) h
  have h3 := setRow_heap W g _ #[y0, y1, y2, y3, x4, x5, x6] t (0, 0) h
  have h4 := setRow_heap W g _ #[y0, y1, y2, y3, y4, x5, x6] t (0, 0) h
  have h5 := setRow_heap W g _ #[y0, y1, y2, y3, y4, y5, x6] t (0, 0) h
  rw [setCell_eq_setRow W g 0 _ t (0, 0) y0 h]
  rw [show (W.setRow g (#[x0, x1, x2, x3, x4, x5, x6].setIfInBounds 0 y0)) = W.setRow g #[y0, x1, x2, x3, x4, x5, x6] from rfl, setCell_eq_setRow _ g 1 _ t (0, 0) y1 h0, setRow_setRow]
  rw [show (W.setRow g (#[y0, x1, x2, x3, x4, x5, x6].setIfInBounds 1 y1)) = W.setRow g #[y0, y1, x2, x3, x4, x5, x6] from rfl, setCell_eq_setRow _ g 2 _ t (0, 0) y2 h1, setRow_setRow]
  rw [show (W.setRow g (#[y0, y1, x2, x3, x4, x5, x6].setIfInBounds 2 y2)) = W.setRow g #[y0, y1, y2, x3, x4, x5, x6] from rfl, setCell_eq_setRow _ g 3 _ t (0, 0) y3 h2, setRow_setRow]
  rw [show (W.setRow g (#[y0, y1, y2, x3, x4, x5, x6].setIfInBounds 3 y3)) = W.setRow g #[y0, y1, y2, y3, x4, x5, x6] from rfl, setCell_eq_setRow _ g 4 _ t (0, 0) y4 h3, setRow_setRow]
  rw [show (W.setRow g (#[y0, y1, y2, y3, x4, x5, x6].setIfInBounds 4 y4)) = W.setRow g #[y0, y1, y2, y3, y4, x5, x6] from rfl, setCell_eq_setRow _ g 5 _ t (0, 0) y5 h4, setRow_setRow]
  rw [show (W.setRow g (#[y0, y1, y2, y3, y4, x5, x6].setIfInBounds 5 y5)) = W.setRow g #[y0, y1, y2, y3, y4, y5, x6] from rfl, setCell_eq_setRow _ g 6 _ t (0, 0) y6 h5, setRow_setRow]
  rfl
end Go.Proofs.YtemedepjmnncbaaGreatDoor
