import Derived.Test.YtemedepjmnncbaaGreatDoorShelf
import Derived.Test.YtemedepjmnncbaaGreatDoorA10
import Derived.Test.YtemedepjmnncbaaGreatDoorPc
import Derived.Sort.OwnSortedInts
namespace Go.Proofs.YtemedepjmnncbaaGreatDoor
set_option linter.unusedVariables false
set_option linter.unusedSimpArgs false
open Go.RowKit Go.Shelf Pu

/-! The columns of an expression. -/
theorem Keep.grown {B0 base sz n : Nat} {a w w' : World} {v : Value} {xs : List Value} {e : TypeId} (h : Keep B0 a w) (he : e = 3 ∨ e = 4 ∨ e = 42) (hown : w.ownsRow base e sz v n xs) (hB : B0 ≤ base) (hB' : B0 ≤ w.heap.size) (hg : w.grownBy w' v.ownBlock) : Keep B0 a w' := by
  refine h.trans ⟨own_grown (Below.refl _ _) hB' hown hB hg, fun b cells t fr hb h1 h2 h3 => hg.block b (heap_lt hb) fun hk => ?_⟩
  obtain ⟨_, h4⟩ := hown
  rcases h4 with ⟨h4, _⟩ | ⟨g, cap, cur, h4, _, h5, _⟩
  · rw [h4] at hk; cases hk
  · rw [h4] at hk
    injection hk with hk
    rw [hk] at hb
    rw [show ({ block := g, off := 0 } : Addr).block = g from rfl, h5] at hb
    injection hb with hb
    injection hb with _ hb
    rcases he with he | he | he <;> simp_all
abbrev OwnInts (base : Nat) (w : World) (v : Value) (l : List Int) : Prop := ∃ xs, w.ownsRow base 3 1 v l.length xs ∧ RowL (intR .i64) 1 l xs
theorem OwnInts.nil (base : Nat) (w : World) : OwnInts base w (.slice none 0 0) [] := ⟨[], World.ownsRow_nil _ _ _ _, rfl⟩
theorem OwnInts.below {base : Nat} {w w' : World} {v : Value} {l : List Int} (h : OwnInts base w v l) (hb : Below w.heap.size w w') : OwnInts base w' v l := by
  obtain ⟨xs, h1, h2⟩ := h; exact ⟨xs, own_below h1 hb, h2⟩
theorem OwnInts.snoc {base : Nat} {w : World} {v : Value} {l : List Int} {x : Int} {xs : List Value} (h1 : w.ownsRow base 3 1 v (l.length + 1) (xs ++ [.int .i64 x])) (h2 : RowL (intR .i64) 1 l xs) : OwnInts base w v (l ++ [x]) :=
  ⟨_, by rw [List.length_append]; exact h1, RowL.append (R := intR .i64) (x := x) rfl rfl h2⟩
theorem OwnInts.row {base : Nat} {w : World} {v : Value} {l : List Int} (h : OwnInts base w v l) : ∃ A c, v = .slice A l.length c ∧ l.length ≤ c ∧ IntRow (fun b => base ≤ b ∧ b < w.heap.size) w A l := by
  obtain ⟨xs, h1, h2⟩ := h; exact own_row h1 h2
theorem rowL_ints {l : List Int} {xs : List Value} (h : RowL (intR .i64) 1 l xs) : xs = l.map (Value.int .i64) := by
  induction l generalizing xs with
  | nil => exact h
  | cons y l ih =>
    obtain ⟨cs, ys, rfl, h1, h2, h3⟩ := h
    rw [ih h3, show cs = [.int .i64 y] from h2]; rfl
theorem ints_rowL (l : List Int) : RowL (intR .i64) 1 l (l.map (Value.int .i64)) := by
  induction l with
  | nil => rfl
  | cons y l ih => exact ⟨[.int .i64 y], _, rfl, rfl, rfl, ih⟩
theorem own_form {base sz n : Nat} {e : TypeId} {w : World} {v : Value} {xs : List Value} (h : w.ownsRow base e sz v n xs) : ∃ A c, v = .slice A n c := by
  obtain ⟨_, h2⟩ := h
  rcases h2 with ⟨h2, h3⟩ | ⟨g, cap, cur, e1, _⟩
  · exact ⟨none, 0, by rw [h3]; exact h2⟩
  · exact ⟨_, _, e1⟩
def ColI (B : Nat) (l : List Int) (w : World) : Prop := l.length ≤ 1000 ∧ ∃ v, w.heap[B]? = some (Obj.cells #[v] 42 (0, 0)) ∧ OwnInts (B + 1) w v l
def stepC (l : List Int) (x : Sc) : List Int × Bool := (if x.f0 = 1 then l ++ [x.f1] else l, true)
theorem vis_stepC (x : Sc) : ∀ l, vis stepC l x = (l ++ refs x, true) := by
  refine Sc.rec (motive_1 := fun x => ∀ l, vis stepC l x = (l ++ refs x, true)) (motive_2 := fun t => ∀ l, viss stepC l t = (l ++ refss t, true)) ?_ ?_ ?_ x
  · intro k c v o t ht l
    simp only [vis, stepC, refs]
    rw [if_neg (by simp), ht]
    by_cases h : k = 1
    · simp [h]
    · simp [h]
  · intro l; simp [viss, refss]
  · intro y t hy ht l
    simp only [viss, refss]
    rw [hy]; simp [ht]
set_option maxRecDepth 100000 in
set_option maxHeartbeats 1000000 in
theorem columns1_c (x : Sc) (A : Option Addr) (c : Nat) (B0 B : Nat) (l : List Int) (w : World) (hB : B0 ≤ B) (hB0 : B0 ≤ w.heap.size) (hl : l.length < 1000) (hI : ColI B l w) :
    Calls Tryz.prog 59 #[scV x A c, .pointer (some ⟨B, 0, none⟩)] w fun e w' => e = .returned (.bool true) ∧ ColI B (stepC l x).1 w' ∧ Keep B0 w w' := by
  obtain ⟨-, v, hb, xs, ho, hR⟩ := hI
  have hlt := heap_lt hb
  have c0 := blk_cell hb 0 rfl
  have f0 := blk_free hb 0
  have HB : Hid _ := hb
  have HO : Hid _ := ho
  have HR : Hid _ := hR
  clear hb ho hR
  by_cases h1 : x.f0 = 1
  · have h1' : (x.f0 == 1) = true := by simp [h1]
    have H1 : Hid (x.f0 = 1) := h1
    clear h1
    go_enter Tryz.func59, Tryz.ntmps59
    go_wp2_with (at_builtin; go_loud (refine append_int rfl _ _ rfl (B + 1) _ _ _ rfl (World.ownsRow.alloc (World.ownsRow.alloc HO.out _) _) ⟨w.heap.size + 1, 0, none⟩ 1 [.int .i64 x.f1] rfl rfl (cells_at (alloc_at (by simp))) (by simp [Value.oneCell']) (by omega) (by simp; omega) ?_); intro v' w2 hown' hgrow; obtain ⟨A', c', rfl⟩ := own_form hown'; have hb2 := grown_block (World.ownsRow.alloc (World.ownsRow.alloc HO.out _) _) hgrow (alloc_lt (alloc_lt HB.out)) (by omega); have c2 := blk_cell hb2 0 rfl; have f2 := blk_free hb2 0; have HB2 : Hid _ := hb2; clear hb2)
    go_ret
    have hO2 := World.ownsRow.alloc (World.ownsRow.alloc HO.out (.cells #[.int .i64 x.f0, .int .i64 x.f1, .int .i64 x.f2.f0, .int .i64 x.f2.f1, .string x.f2.f2, .int .i64 x.f3, .slice A x.f4.length c] 26)) (.cells #[.int .i64 x.f1] 3)
    refine ⟨rfl, ?_, ?_⟩
    · unfold ColI stepC
      rw [if_pos H1.out]
      refine ⟨by simp; omega, _, setCell1 HB2.out _, xs ++ [.int .i64 x.f1], ?_, ?_⟩
      · exact ownsRow_setCell_below (by rw [List.length_append]; exact hown') (by simp) _
      · exact RowL.append (R := intR .i64) (x := x.f1) rfl rfl HR.out
    · have h0 : Keep B0 w ((w.alloc (.cells #[.int .i64 x.f0, .int .i64 x.f1, .int .i64 x.f2.f0, .int .i64 x.f2.f1, .string x.f2.f2, .int .i64 x.f3, .slice A x.f4.length c] 26)).alloc (.cells #[.int .i64 x.f1] 3)) := ((Keep.refl B0 w).alloc hB0 _).alloc (by simp; omega) _
      exact (Keep.grown h0 (.inl rfl) hO2 (by omega) (by simp; omega) hgrow).trans (Keep.set HB2.out (.inr (.inr rfl)) hB _ _)
  · have h1' : (x.f0 == 1) = false := by simp [h1]
    have H1 : Hid (¬ x.f0 = 1) := h1
    clear h1
    go_enter Tryz.func59, Tryz.ntmps59
    go_wp2
    go_ret
    refine ⟨rfl, ?_, (Keep.refl B0 w).alloc hB0 _⟩
    unfold ColI stepC
    rw [if_neg H1.out]
    exact ⟨by simp; omega, v, alloc_lt HB.out, xs, World.ownsRow.alloc HO.out _, HR.out⟩
theorem columns_cb (B0 B : Nat) (hB : B0 ≤ B) : Cb 59 #[.pointer (some ⟨B, 0, none⟩)] B0 stepC (ColI B) (fun l => 1000 - l.length) where
  dec l x _ := by simp only [stepC]; split <;> simp <;> omega
  call s x W A c _ h0 hI hB0 _ _ := (columns1_c x A c B0 B s W hB hB0 (by omega) hI).mono fun e w' ⟨h1, h2, h3⟩ => ⟨h1, fun _ => h2, h3⟩
  add s W W' hI hb := ⟨hI.1, hI.2.imp fun v ⟨h1, h2⟩ => ⟨bk hb h1, h2.below hb⟩⟩
  enters := enters_of Tryz.func59 (by kernel_rfl) rfl
theorem Row.front {α : Type} {R : α → List Value → Prop} {sz : Nat} {S : Nat → Prop} {w : World} {A : Option Addr} {l m : List α} (h : Row R sz S w A (l ++ m)) : Row R sz S w A l := by
  obtain ⟨h1, h2⟩ := h
  refine ⟨by simp at h1; omega, ?_⟩
  rcases h2 with h2 | ⟨b, o, e, hb, h2⟩
  · exact .inl (List.append_eq_nil_iff.1 h2).1
  · refine .inr ⟨b, o, e, hb, ?_⟩
    clear e h1
    induction l generalizing o with
    | nil => trivial
    | cons x l ih => exact ⟨h2.1, ih _ h2.2⟩
theorem grow_nil (w : World) : Go.Sort.grow w #[] = w := by simp [Go.Sort.grow]
set_option maxRecDepth 100000 in
set_option maxHeartbeats 1000000 in
theorem Columns_c (x : Sc) (A : Option Addr) (c : Nat) (w : World) (hW : scW x) (hsz : size x ≤ 1000) (hc : x.f4.length ≤ c) (hr : ScRow (· < w.heap.size) w A x.f4) :
    Calls Tryz.prog 23 #[scV x A c] w fun e w' => ∃ A' c', e = .returned (.slice A' (cols x).length c') ∧ (cols x).length ≤ c' ∧ IntRow (fun b => w.heap.size ≤ b ∧ b < w'.heap.size) w' A' (cols x) ∧ Below w.heap.size w w' := by
  have hmf : ∀ (fn : Fn) (first cap : Array Value) (w : World), (Instr.makeFunc fn first cap).run Tryz.prog w = .ok (.func fn first cap) w := fun _ _ _ _ => rfl
  have hcb := columns_cb w.heap.size (w.heap.size + 1) (by omega)
  go_enter Tryz.func23, Tryz.ntmps23
  go_wp2_with fail
  refine (visit_c hcb x [] _ A c hW (by simpa using hsz) ⟨by simp, _, alloc_at (by simp), OwnInts.nil _ _⟩ (by simp; omega) hc (hr.below ((Below.refl _ _).alloc (Nat.le_refl _) _ |>.alloc (by simp) _))).mono ?_
  rintro e w1 ⟨rfl, hI, hk⟩
  rw [vis_stepC] at hI ⊢
  obtain ⟨hl, v, hb, hO⟩ := hI rfl
  rw [List.nil_append] at hl hO
  have HB : Hid (Below w.heap.size w w1) := (ba (ba (Below.refl _ _) _) _).trans hk.below
  have c0 := blk_cell hb 0 rfl
  have hlt := heap_lt hb
  have HK : Hid _ := hb
  obtain ⟨xs, ho, hR⟩ := hO
  have hx := rowL_ints hR
  obtain ⟨h1, h2⟩ := id ho
  have hcl := Nat.le_trans (upTo_len (sortd (refs x)).toArray (sortd (refs x)).length) (Nat.le_of_eq (sortd_len _))
  clear hb hk hI hR
  rcases h2 with ⟨rfl, hn⟩ | ⟨g, cap, cur, rfl, hg1, hg2, hg3, hg4, hg5, hg6⟩
  · have hnil : cols x = [] := by
      have : refs x = [] := List.length_eq_zero_iff.1 hn
      unfold cols; rw [this]; simp [sortd, Lib.compact, Lib.compactUpTo]
    have HNIL : Hid _ := hnil
    clear hnil
    clear hn ho h1 hcl hl hx
    go_wp2_with fail
    refine (Tryz.slices_Sort_int_none _ _ _).mono ?_
    rintro e w2 ⟨rfl, rfl⟩
    go_wp2_with fail
    refine (Tryz.slices_Compact_int_empty _ _ _).mono ?_
    rintro e w3 ⟨rfl, rfl⟩
    go_wp2_with fail
    go_ret
    rw [HNIL.out]
    exact ⟨_, _, rfl, by simp, Row.nil _, HB.out⟩
  · rw [Nat.mul_one] at hg6
    have hH := holds_of_blockI hg2 (by rw [hg6, hx])
    have hgs : g < w1.heap.size := heap_lt hg2
    have hs := Tryz.slices_Sort_int g 0 cap (refs x) w1 hH hgs (Nat.lt_of_le_of_lt hl (by decide))
    clear hH hx h1
    have hslen : (sortd (refs x)).length = (refs x).length := sortd_len _
    go_wp2_with fail
    refine hs.mono ?_
    rintro e w2 ⟨rfl, n, os, hw2⟩
    have hgr := grownBy_sortedI (w := w1) (g := g) (n := n) (os := os) (sortd (refs x)).toArray
    have hbl := heap_sortedI (n := n) (os := os) (sortd (refs x)).toArray hg2
    have hown2 := ownsRow_sortedI (n := n) (os := os) hslen hg1 hg2 hg3 hg4 hg5
    rw [show (refs x).mergeSort (fun x y => decide (x ≤ y)) = sortd (refs x) from rfl] at hw2
    rw [← hw2] at hgr hbl hown2
    have hb2 := (hgr.block (w.heap.size + 1) hlt (by simp; omega)).trans HK.out
    have c2 := blk_cell hb2 0 rfl
    have HGR : Hid _ := hgr
    have HBL : Hid _ := hbl
    have HO2 : Hid _ := hown2
    clear hgr hbl hown2 hw2 hs hb2 hg5 hg6 hg2
    obtain ⟨-, h2'⟩ := id HO2.out
    rcases h2' with ⟨h2', -⟩ | ⟨g', cap', cur', e', -, hb', hn', hc', hs', ht'⟩
    · cases h2'
    · cases e'
      rw [Nat.mul_one] at ht'
      have hH2 := holds_of_blockI (ss := sortd (refs x)) hb' (by rw [hslen]; exact ht')
      have hcm := Tryz.slices_Compact_int g 0 cap (sortd (refs x)) w2 hH2 (by rw [hslen]; exact Nat.le_trans hl (by decide)) (by rw [hslen]; exact hg3)
      rw [hslen] at hcm
      have HB' : Hid _ := hb'
      have HS' : Hid _ := hs'
      clear hb' ht' hH2 hs'
      go_wp2_with fail
      refine hcm.mono ?_
      rintro e w3 ⟨rfl, q, hw3⟩
      have HW3 : Hid _ := hw3
      clear hw3
      go_wp2_with fail
      go_ret
      have hw3 := HW3.out
      have hcl' : (Lib.compact (sortd (refs x))).length ≤ (refs x).length := hcl
      obtain ⟨L, hL⟩ : ∃ L, L = (Lib.compact (sortd (refs x))) ++ List.replicate ((refs x).length - (Lib.compact (sortd (refs x))).length) 0 := ⟨_, rfl⟩
      rw [← hL] at hw3
      have hl3 : L.length = (refs x).length := by rw [hL, List.length_append, List.length_replicate]; omega
      have hgr := grownBy_sortedI (w := w2) (g := g) (n := q) (os := #[]) L.toArray
      have hown3 := ownsRow_sortedI (n := q) (os := #[]) hl3 hg1 HB'.out hg3 hg4 HS'.out
      rw [grow_nil, ← hw3] at hgr hown3
      rw [← hl3] at hown3
      obtain ⟨A3, c3, e3, h5, h6⟩ := own_row (R := intR .i64) hown3 (ints_rowL _)
      rw [hL] at h6
      injection e3 with e3 _ e4
      subst e3 e4
      refine ⟨_, _, rfl, Nat.le_trans hcl' hg3, Row.front (Row.move h6 (fun _ _ h => h) fun b hb => ⟨⟨by omega, hb.2⟩, rfl⟩), ?_⟩
      have b2 : Below w.heap.size w w2 := HB.out.grown HGR.out HB.out.size (fun k hk => by cases hk; omega)
      exact b2.grown hgr b2.size (fun k hk => by cases hk; omega)
end Go.Proofs.YtemedepjmnncbaaGreatDoor
