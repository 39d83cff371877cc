import Derived.Test.YtemedepjmnncbaaGreatDoorRg
import Derived.Test.YtemedepjmnncbaaGreatDoorA14
namespace Go.Proofs.YtemedepjmnncbaaGreatDoor
set_option linter.unusedVariables false
set_option linter.unusedSimpArgs false
open Go.RowKit Go.Shelf Pu

set_option maxHeartbeats 400000 in
theorem constant_c (v : Va) (w : World) : Calls Tryz.prog 70 #[vaV v] w fun e w' => e = .returned (scV (con v) none 0) ∧ Below w.heap.size w w' := by
  go_enter Tryz.func70, Tryz.ntmps70
  go_wp2_with fail
  refine bodyPost_ret (ret1 Tryz.results70 rfl (alloc_at (by simp)) Tryz.isAgg26 Tryz.sizeOf26) rfl ⟨rfl, ba (ba (Below.refl _ _) _) _⟩
def Blk7 (B : Nat) (W : World) (x : Value) : Prop := ∃ n y0 y1 y2 y3 y4 y5 y6, x = .pointer (some ⟨n, 0, none⟩) ∧ B ≤ n ∧ W.heap[n]? = some (Obj.cells #[y0, y1, y2, y3, y4, y5, y6] 26 (0, 0))
def Con7 (B : Nat) (W : World) (x : Value) (v : Va) : Prop := ∃ n, x = .pointer (some ⟨n, 0, none⟩) ∧ B ≤ n ∧ W.heap[n]? = some (Obj.cells #[.int .i64 0, .int .i64 0, .int .i64 v.f0, .int .i64 v.f1, .string v.f2, .int .i64 0, .slice none 0 0] 26 (0, 0))
theorem Blk7.mono {B : Nat} {W W' : World} {x : Value} (h : Blk7 B W x) (hb : Below W.heap.size W W') : Blk7 B W' x := by
  obtain ⟨n, y0, y1, y2, y3, y4, y5, y6, h1, h2, h3⟩ := h
  exact ⟨n, y0, y1, y2, y3, y4, y5, y6, h1, h2, bk hb h3⟩
theorem Con7.mono {B : Nat} {W W' : World} {x : Value} {v : Va} (h : Con7 B W x v) (hb : Below W.heap.size W W') : Con7 B W' x v := by
  obtain ⟨n, h1, h2, h3⟩ := h
  exact ⟨n, h1, h2, bk hb h3⟩
theorem Con7.blk {B : Nat} {W : World} {x : Value} {v : Va} (h : Con7 B W x v) : Blk7 B W x := by
  obtain ⟨n, h1, h2, h3⟩ := h
  exact ⟨n, _, _, _, _, _, _, _, h1, h2, h3⟩
/-- What holds while the first statement of 'logical' goes on. -/
structure LI (o : Int) (s : Nat) (W0 W : World) (L : Nat → Prop) (x7 x8 x9 x10 x11 x12 x13 x14 x15 x16 x17 x18 : Value) : Prop where
  bel : Below W0.heap.size W0 W
  f0 : L 0 → x9 = .pointer (some ⟨s, 5, none⟩)
  f1 : L 1 → x10 = .int .i64 o
  f2 : L 2 → x11 = .bool (o == 11)
  f3 : L 3 → x12 = vaV (tr (o == 11))
  f4 : L 4 → x13 = scV (con (tr (o == 11))) none 0
  f5 : L 5 → x14 = .pointer (some ⟨s, 5, none⟩)
  f6 : L 6 → x15 = .int .i64 o
  f7 : L 7 → x16 = .bool (o == 12)
  f8 : L 8 → x17 = vaV (tr (o == 12))
  f9 : L 9 → x18 = scV (con (tr (o == 12))) none 0
  f10 : L 10 → Blk7 W0.heap.size W x7
  f11 : L 11 → Blk7 W0.heap.size W x8
  f12 : L 12 → Con7 W0.heap.size W x7 (tr (o == 11))
  f13 : L 13 → Con7 W0.heap.size W x8 (tr (o == 12))
  dis : L 10 → L 11 → x7 ≠ x8
  c12 : L 12 → L 10
  c13 : L 13 → L 12 ∧ L 11
theorem blk_ne {B : Nat} {W : World} {x : Value} (h : Blk7 B W x) : Value.pointer (some ⟨W.heap.size, 0, none⟩) ≠ x := by
  obtain ⟨n, y0, y1, y2, y3, y4, y5, y6, rfl, h2, h3⟩ := h
  intro e; injection e with e; injection e with e; injection e with e; have := heap_lt h3; omega
theorem blk_set {B n : Nat} {W : World} {x : Value} {cs : Array Value} (h : Blk7 B W x) (hd : Value.pointer (some ⟨n, 0, none⟩) ≠ x) : Blk7 B (W.setRow n cs) x := by
  obtain ⟨m, y0, y1, y2, y3, y4, y5, y6, rfl, h2, h3⟩ := h
  exact ⟨m, y0, y1, y2, y3, y4, y5, y6, rfl, h2, (setRow_other _ _ _ _ (fun e => hd (by rw [e]))).trans h3⟩
theorem con_set {B n : Nat} {W : World} {x : Value} {v : Va} {cs : Array Value} (h : Con7 B W x v) (hd : x ≠ Value.pointer (some ⟨n, 0, none⟩)) : Con7 B (W.setRow n cs) x v := by
  obtain ⟨m, rfl, h2, h3⟩ := h
  exact ⟨m, rfl, h2, (setRow_other _ _ _ _ (fun e => hd (by rw [e]))).trans h3⟩
theorem cellB' {W0 W : World} (hb : Below W0.heap.size W0 W) {a : Addr} {v : Value} (h : W0.cell? a = some v) : W.cell? a = some v := (hb.cell (World.block_lt_of_cell? W0 a h)).trans h
def LogI (T0 T1 T2 T3 T4 T5 T6 : Value) (o : Int) (s : Nat) (W0 : World) (listed : Array Bool) (a : Act) (W : World) : Prop :=
  ∃ x7 x8 x9 x10 x11 x12 x13 x14 x15 x16 x17 x18, a = { tmps := #[T0, T1, T2, T3, T4, T5, T6, x7, x8, x9, x10, x11, x12, x13, x14, x15, x16, x17, x18, undef, undef, undef, undef, undef, undef, undef, undef, undef, undef, undef, undef, undef, undef, undef, undef, undef, undef, undef, undef, undef], defers := [] } ∧ LI o s W0 W (fun j => listed.getD j false = true) x7 x8 x9 x10 x11 x12 x13 x14 x15 x16 x17 x18
theorem lset {listed : Array Bool} {i j : Nat} (h : (listed.setIfInBounds i true).getD j false = true) (hij : i ≠ j) : listed.getD j false = true := by rwa [getD_set_ne false hij] at h
/-- What 'logical' returns. -/
def LogR (e a b : Sc) (A0 A1 A2 : Option Addr) (c0 c1 c2 : Nat) (x : Ending) : Prop := ∃ r A c, x = .returned (scV r A c) ∧ r = logic e.f3 e a b ∧
  ((r = e ∧ A = A0 ∧ c = c0) ∨ (r = a ∧ A = A1 ∧ c = c1) ∨ (r = b ∧ A = A2 ∧ c = c2) ∨ (r.f4 = [] ∧ A = none ∧ c = 0))
theorem logic_eq (o : Int) (e a b : Sc) : logic o e a b = if a = con (tr (o == 11)) then b else if b = con (tr (o == 11)) then a else if a = con (tr (o == 12)) ∨ b = con (tr (o == 12)) then con (tr (o == 12)) else e := by
  have h : ∀ k : Int, (o == k) = decide (o = k) := fun k => rfl
  simp only [logic, h, eqb_iff, Bool.or_eq_true]
theorem beq_dec (a b : Int) : (a == b) = decide (a = b) := rfl
set_option maxRecDepth 100000 in
set_option maxHeartbeats 8000000 in
theorem logical_c (e a b : Sc) (A0 A1 A2 : Option Addr) (c0 c1 c2 : Nat) (w : World) (h0 : ScRow (· < w.heap.size) w A0 e.f4) (h1 : ScRow (· < w.heap.size) w A1 a.f4) (h2 : ScRow (· < w.heap.size) w A2 b.f4) :
    Calls Tryz.prog 95 #[scV e A0 c0, scV a A1 c1, scV b A2 c2] w fun x w' => LogR e a b A0 A1 A2 c0 c1 c2 x ∧ Below w.heap.size w w' := by
  go_enter Tryz.func95, Tryz.ntmps95
  go_wp2_with fail
  have hbase := alloc_lt (o := Obj.cells #[.int .i64 0, .int .i64 0, .int .i64 0, .int .i64 0, .string ⟨#[]⟩, .int .i64 0, .slice none 0 0] 26) (alloc_lt (o := Obj.cells #[.int .i64 b.f0, .int .i64 b.f1, .int .i64 b.f2.f0, .int .i64 b.f2.f1, .string b.f2.f2, .int .i64 b.f3, .slice A2 b.f4.length c2] 26) (alloc_lt (o := Obj.cells #[.int .i64 a.f0, .int .i64 a.f1, .int .i64 a.f2.f0, .int .i64 a.f2.f1, .string a.f2.f2, .int .i64 a.f3, .slice A1 a.f4.length c1] 26) (alloc_at (W := w) (o := Obj.cells #[.int .i64 e.f0, .int .i64 e.f1, .int .i64 e.f2.f0, .int .i64 e.f2.f1, .string e.f2.f2, .int .i64 e.f3, .slice A0 e.f4.length c0] 26) rfl)))
  have hcell := blk_cell hbase 5 rfl
  have hbA := alloc_lt (o := Obj.cells #[.int .i64 0, .int .i64 0, .int .i64 0, .int .i64 0, .string ⟨#[]⟩, .int .i64 0, .slice none 0 0] 26) (alloc_lt (o := Obj.cells #[.int .i64 b.f0, .int .i64 b.f1, .int .i64 b.f2.f0, .int .i64 b.f2.f1, .string b.f2.f2, .int .i64 b.f3, .slice A2 b.f4.length c2] 26) (alloc_at (n := w.heap.size + 1) (W := w.alloc (Obj.cells #[.int .i64 e.f0, .int .i64 e.f1, .int .i64 e.f2.f0, .int .i64 e.f2.f1, .string e.f2.f2, .int .i64 e.f3, .slice A0 e.f4.length c0] 26)) (o := Obj.cells #[.int .i64 a.f0, .int .i64 a.f1, .int .i64 a.f2.f0, .int .i64 a.f2.f1, .string a.f2.f2, .int .i64 a.f3, .slice A1 a.f4.length c1] 26) (by simp)))
  have hbB := alloc_lt (o := Obj.cells #[.int .i64 0, .int .i64 0, .int .i64 0, .int .i64 0, .string ⟨#[]⟩, .int .i64 0, .slice none 0 0] 26) (alloc_at (n := w.heap.size + 1 + 1) (W := (w.alloc (Obj.cells #[.int .i64 e.f0, .int .i64 e.f1, .int .i64 e.f2.f0, .int .i64 e.f2.f1, .string e.f2.f2, .int .i64 e.f3, .slice A0 e.f4.length c0] 26)).alloc (Obj.cells #[.int .i64 a.f0, .int .i64 a.f1, .int .i64 a.f2.f0, .int .i64 a.f2.f1, .string a.f2.f2, .int .i64 a.f3, .slice A1 a.f4.length c1] 26)) (o := Obj.cells #[.int .i64 b.f0, .int .i64 b.f1, .int .i64 b.f2.f0, .int .i64 b.f2.f1, .string b.f2.f2, .int .i64 b.f3, .slice A2 b.f4.length c2] 26) (by simp))
  have hbR := alloc_at (n := w.heap.size + 1 + 1 + 1) (W := ((w.alloc (Obj.cells #[.int .i64 e.f0, .int .i64 e.f1, .int .i64 e.f2.f0, .int .i64 e.f2.f1, .string e.f2.f2, .int .i64 e.f3, .slice A0 e.f4.length c0] 26)).alloc (Obj.cells #[.int .i64 a.f0, .int .i64 a.f1, .int .i64 a.f2.f0, .int .i64 a.f2.f1, .string a.f2.f2, .int .i64 a.f3, .slice A1 a.f4.length c1] 26)).alloc (Obj.cells #[.int .i64 b.f0, .int .i64 b.f1, .int .i64 b.f2.f0, .int .i64 b.f2.f1, .string b.f2.f2, .int .i64 b.f3, .slice A2 b.f4.length c2] 26)) (o := Obj.cells #[.int .i64 0, .int .i64 0, .int .i64 0, .int .i64 0, .string ⟨#[]⟩, .int .i64 0, .slice none 0 0] 26) (by simp)
  have hbl0 : Below w.heap.size w ((((w.alloc (Obj.cells #[.int .i64 e.f0, .int .i64 e.f1, .int .i64 e.f2.f0, .int .i64 e.f2.f1, .string e.f2.f2, .int .i64 e.f3, .slice A0 e.f4.length c0] 26)).alloc (Obj.cells #[.int .i64 a.f0, .int .i64 a.f1, .int .i64 a.f2.f0, .int .i64 a.f2.f1, .string a.f2.f2, .int .i64 a.f3, .slice A1 a.f4.length c1] 26)).alloc (Obj.cells #[.int .i64 b.f0, .int .i64 b.f1, .int .i64 b.f2.f0, .int .i64 b.f2.f1, .string b.f2.f2, .int .i64 b.f3, .slice A2 b.f4.length c2] 26)).alloc (Obj.cells #[.int .i64 0, .int .i64 0, .int .i64 0, .int .i64 0, .string ⟨#[]⟩, .int .i64 0, .slice none 0 0] 26)) := ba (ba (ba (ba (Below.refl _ _) _) _) _) _
  generalize hW0 : ((((w.alloc _).alloc _).alloc _).alloc _) = W0 at hbase hcell hbA hbB hbR hbl0 ⊢
  have HW0 : Hid _ := hW0
  have HBA : Hid _ := hbase
  have HC0 : Hid _ := hcell
  have HA0 : Hid _ := hbA
  have HB0 : Hid _ := hbB
  have HR0 : Hid _ := hbR
  have HL0 : Hid _ := hbl0
  have hll1 := h1.1
  have hll2 := h2.1
  have hll0 := h0.1
  clear hW0 hbase hcell hbA hbB hbR hbl0
  refine wp_region_inv (by kernel_rfl) (LogI (scV e A0 c0) (scV a A1 c1) (scV b A2 c2) (.pointer (some ⟨w.heap.size, 0, none⟩)) (.pointer (some ⟨w.heap.size + 1, 0, none⟩)) (.pointer (some ⟨w.heap.size + 1 + 1, 0, none⟩)) (.pointer (some ⟨w.heap.size + 1 + 1 + 1, 0, none⟩)) e.f3 w.heap.size W0) (by kernel_rfl) ?_ ?_ ?_
  · refine ⟨undef, undef, undef, undef, undef, undef, undef, undef, undef, undef, undef, undef, rfl, ?_⟩
    constructor
    · exact bd (Below.refl _ _)
    all_goals (intro h; simp at h)
  · intro listed a' W hsz hI i hi
    obtain ⟨hi0, oj, hoj, hall⟩ := mem_ready.1 hi
    have hlt : i < 14 := (Array.getElem?_eq_some_iff.1 hoj).1
    obtain ⟨x7, x8, x9, x10, x11, x12, x13, x14, x15, x16, x17, x18, rfl, hx⟩ := hI
    have hcell := HC0.out
    have hcs : i = 0 ∨ i = 1 ∨ i = 2 ∨ i = 3 ∨ i = 4 ∨ i = 5 ∨ i = 6 ∨ i = 7 ∨ i = 8 ∨ i = 9 ∨ i = 10 ∨ i = 11 ∨ i = 12 ∨ i = 13 := by omega
    clear hlt hsz
    rcases hcs with rfl | rfl | rfl | rfl | rfl | rfl | rfl | rfl | rfl | rfl | rfl | rfl | rfl | rfl
    · have hJ := hoj
      simp at hJ
      have HX : Hid _ := hx
      have HI0 : Hid _ := hi0
      clear hx hall hoj hJ hi hi0
      refine wpOp_step (o := _) rfl fun K' hK => ?_
      rw [if_pos (by rfl)]
      have HK : Hid _ := hK
      clear hK
      go_wp2_with fail
      exact HK.out _ _ ⟨x7, x8, _, x10, x11, x12, x13, x14, x15, x16, x17, x18, rfl, ⟨HX.out.bel, fun _ => rfl, fun h => HX.out.f1 (lset h (by decide)), fun h => HX.out.f2 (lset h (by decide)), fun h => HX.out.f3 (lset h (by decide)), fun h => HX.out.f4 (lset h (by decide)), fun h => HX.out.f5 (lset h (by decide)), fun h => HX.out.f6 (lset h (by decide)), fun h => HX.out.f7 (lset h (by decide)), fun h => HX.out.f8 (lset h (by decide)), fun h => HX.out.f9 (lset h (by decide)), fun h => HX.out.f10 (lset h (by decide)), fun h => HX.out.f11 (lset h (by decide)), fun h => HX.out.f12 (lset h (by decide)), fun h => HX.out.f13 (lset h (by decide)), fun h h' => HX.out.dis (lset h (by decide)) (lset h' (by decide)), fun h => getD_set_true (HX.out.c12 (lset h (by decide))), fun h => ⟨getD_set_true (HX.out.c13 (lset h (by decide))).1, getD_set_true (HX.out.c13 (lset h (by decide))).2⟩⟩⟩
    · have hJ := hoj
      simp at hJ
      have l0 : listed.getD 0 false = true := hall ⟨0, .data⟩ (by subst hJ; simp) rfl
      obtain rfl := hx.f0 l0
      have hc := cellB' hx.bel hcell
      have HX : Hid _ := hx
      have HI0 : Hid _ := hi0
      clear hx hall hoj hJ hi hi0
      refine wpOp_step (o := _) rfl fun K' hK => ?_
      rw [if_pos (by rfl)]
      have HK : Hid _ := hK
      clear hK
      go_wp2_with fail
      exact HK.out _ _ ⟨x7, x8, _, _, x11, x12, x13, x14, x15, x16, x17, x18, rfl, ⟨HX.out.bel, fun h => HX.out.f0 (lset h (by decide)), fun _ => rfl, fun h => HX.out.f2 (lset h (by decide)), fun h => HX.out.f3 (lset h (by decide)), fun h => HX.out.f4 (lset h (by decide)), fun h => HX.out.f5 (lset h (by decide)), fun h => HX.out.f6 (lset h (by decide)), fun h => HX.out.f7 (lset h (by decide)), fun h => HX.out.f8 (lset h (by decide)), fun h => HX.out.f9 (lset h (by decide)), fun h => HX.out.f10 (lset h (by decide)), fun h => HX.out.f11 (lset h (by decide)), fun h => HX.out.f12 (lset h (by decide)), fun h => HX.out.f13 (lset h (by decide)), fun h h' => HX.out.dis (lset h (by decide)) (lset h' (by decide)), fun h => getD_set_true (HX.out.c12 (lset h (by decide))), fun h => ⟨getD_set_true (HX.out.c13 (lset h (by decide))).1, getD_set_true (HX.out.c13 (lset h (by decide))).2⟩⟩⟩
    · have hJ := hoj
      simp at hJ
      have l1 : listed.getD 1 false = true := hall ⟨1, .data⟩ (by subst hJ; simp) rfl
      obtain rfl := hx.f1 l1
      have HX : Hid _ := hx
      have HI0 : Hid _ := hi0
      clear hx hall hoj hJ hi hi0
      refine wpOp_step (o := _) rfl fun K' hK => ?_
      rw [if_pos (by rfl)]
      have HK : Hid _ := hK
      clear hK
      go_wp2_with fail
      exact HK.out _ _ ⟨x7, x8, x9, _, _, x12, x13, x14, x15, x16, x17, x18, rfl, ⟨HX.out.bel, fun h => HX.out.f0 (lset h (by decide)), fun h => HX.out.f1 (lset h (by decide)), fun _ => rfl, fun h => HX.out.f3 (lset h (by decide)), fun h => HX.out.f4 (lset h (by decide)), fun h => HX.out.f5 (lset h (by decide)), fun h => HX.out.f6 (lset h (by decide)), fun h => HX.out.f7 (lset h (by decide)), fun h => HX.out.f8 (lset h (by decide)), fun h => HX.out.f9 (lset h (by decide)), fun h => HX.out.f10 (lset h (by decide)), fun h => HX.out.f11 (lset h (by decide)), fun h => HX.out.f12 (lset h (by decide)), fun h => HX.out.f13 (lset h (by decide)), fun h h' => HX.out.dis (lset h (by decide)) (lset h' (by decide)), fun h => getD_set_true (HX.out.c12 (lset h (by decide))), fun h => ⟨getD_set_true (HX.out.c13 (lset h (by decide))).1, getD_set_true (HX.out.c13 (lset h (by decide))).2⟩⟩⟩
    · have hJ := hoj
      simp at hJ
      have l2 : listed.getD 2 false = true := hall ⟨2, .data⟩ (by subst hJ; simp) rfl
      obtain rfl := hx.f2 l2
      have HX : Hid _ := hx
      have HI0 : Hid _ := hi0
      clear hx hall hoj hJ hi hi0
      refine wpOp_step (o := _) rfl fun K' hK => ?_
      rw [if_pos (by rfl)]
      have HK : Hid _ := hK
      clear hK
      go_wp2_with fail
      refine (truth_c _ _).mono ?_
      rintro e w1 ⟨rfl, hb⟩
      have HB : Hid _ := hb
      clear hb
      go_wp2_with fail
      exact HK.out _ _ ⟨x7, x8, x9, x10, _, _, x13, x14, x15, x16, x17, x18, rfl, ⟨(bt HX.out.bel HB.out), fun h => HX.out.f0 (lset h (by decide)), fun h => HX.out.f1 (lset h (by decide)), fun h => HX.out.f2 (lset h (by decide)), fun _ => rfl, fun h => HX.out.f4 (lset h (by decide)), fun h => HX.out.f5 (lset h (by decide)), fun h => HX.out.f6 (lset h (by decide)), fun h => HX.out.f7 (lset h (by decide)), fun h => HX.out.f8 (lset h (by decide)), fun h => HX.out.f9 (lset h (by decide)), fun h => (HX.out.f10 (lset h (by decide))).mono HB.out, fun h => (HX.out.f11 (lset h (by decide))).mono HB.out, fun h => (HX.out.f12 (lset h (by decide))).mono HB.out, fun h => (HX.out.f13 (lset h (by decide))).mono HB.out, fun h h' => HX.out.dis (lset h (by decide)) (lset h' (by decide)), fun h => getD_set_true (HX.out.c12 (lset h (by decide))), fun h => ⟨getD_set_true (HX.out.c13 (lset h (by decide))).1, getD_set_true (HX.out.c13 (lset h (by decide))).2⟩⟩⟩
    · have hJ := hoj
      simp at hJ
      have l3 : listed.getD 3 false = true := hall ⟨3, .data⟩ (by subst hJ; simp) rfl
      obtain rfl := hx.f3 l3
      have HX : Hid _ := hx
      have HI0 : Hid _ := hi0
      clear hx hall hoj hJ hi hi0
      refine wpOp_step (o := _) rfl fun K' hK => ?_
      rw [if_pos (by rfl)]
      have HK : Hid _ := hK
      clear hK
      go_wp2_with fail
      refine (constant_c _ _).mono ?_
      rintro e w1 ⟨rfl, hb⟩
      have HB : Hid _ := hb
      clear hb
      go_wp2_with fail
      exact HK.out _ _ ⟨x7, x8, x9, x10, x11, _, _, x14, x15, x16, x17, x18, rfl, ⟨(bt HX.out.bel HB.out), fun h => HX.out.f0 (lset h (by decide)), fun h => HX.out.f1 (lset h (by decide)), fun h => HX.out.f2 (lset h (by decide)), fun h => HX.out.f3 (lset h (by decide)), fun _ => rfl, fun h => HX.out.f5 (lset h (by decide)), fun h => HX.out.f6 (lset h (by decide)), fun h => HX.out.f7 (lset h (by decide)), fun h => HX.out.f8 (lset h (by decide)), fun h => HX.out.f9 (lset h (by decide)), fun h => (HX.out.f10 (lset h (by decide))).mono HB.out, fun h => (HX.out.f11 (lset h (by decide))).mono HB.out, fun h => (HX.out.f12 (lset h (by decide))).mono HB.out, fun h => (HX.out.f13 (lset h (by decide))).mono HB.out, fun h h' => HX.out.dis (lset h (by decide)) (lset h' (by decide)), fun h => getD_set_true (HX.out.c12 (lset h (by decide))), fun h => ⟨getD_set_true (HX.out.c13 (lset h (by decide))).1, getD_set_true (HX.out.c13 (lset h (by decide))).2⟩⟩⟩
    · have hJ := hoj
      simp at hJ
      have HX : Hid _ := hx
      have HI0 : Hid _ := hi0
      clear hx hall hoj hJ hi hi0
      refine wpOp_step (o := _) rfl fun K' hK => ?_
      rw [if_pos (by rfl)]
      have HK : Hid _ := hK
      clear hK
      go_wp2_with fail
      exact HK.out _ _ ⟨x7, x8, x9, x10, x11, x12, x13, _, x15, x16, x17, x18, rfl, ⟨HX.out.bel, fun h => HX.out.f0 (lset h (by decide)), fun h => HX.out.f1 (lset h (by decide)), fun h => HX.out.f2 (lset h (by decide)), fun h => HX.out.f3 (lset h (by decide)), fun h => HX.out.f4 (lset h (by decide)), fun _ => rfl, fun h => HX.out.f6 (lset h (by decide)), fun h => HX.out.f7 (lset h (by decide)), fun h => HX.out.f8 (lset h (by decide)), fun h => HX.out.f9 (lset h (by decide)), fun h => HX.out.f10 (lset h (by decide)), fun h => HX.out.f11 (lset h (by decide)), fun h => HX.out.f12 (lset h (by decide)), fun h => HX.out.f13 (lset h (by decide)), fun h h' => HX.out.dis (lset h (by decide)) (lset h' (by decide)), fun h => getD_set_true (HX.out.c12 (lset h (by decide))), fun h => ⟨getD_set_true (HX.out.c13 (lset h (by decide))).1, getD_set_true (HX.out.c13 (lset h (by decide))).2⟩⟩⟩
    · have hJ := hoj
      simp at hJ
      have l5 : listed.getD 5 false = true := hall ⟨5, .data⟩ (by subst hJ; simp) rfl
      obtain rfl := hx.f5 l5
      have hc := cellB' hx.bel hcell
      have HX : Hid _ := hx
      have HI0 : Hid _ := hi0
      clear hx hall hoj hJ hi hi0
      refine wpOp_step (o := _) rfl fun K' hK => ?_
      rw [if_pos (by rfl)]
      have HK : Hid _ := hK
      clear hK
      go_wp2_with fail
      exact HK.out _ _ ⟨x7, x8, x9, x10, x11, x12, x13, _, _, x16, x17, x18, rfl, ⟨HX.out.bel, fun h => HX.out.f0 (lset h (by decide)), fun h => HX.out.f1 (lset h (by decide)), fun h => HX.out.f2 (lset h (by decide)), fun h => HX.out.f3 (lset h (by decide)), fun h => HX.out.f4 (lset h (by decide)), fun h => HX.out.f5 (lset h (by decide)), fun _ => rfl, fun h => HX.out.f7 (lset h (by decide)), fun h => HX.out.f8 (lset h (by decide)), fun h => HX.out.f9 (lset h (by decide)), fun h => HX.out.f10 (lset h (by decide)), fun h => HX.out.f11 (lset h (by decide)), fun h => HX.out.f12 (lset h (by decide)), fun h => HX.out.f13 (lset h (by decide)), fun h h' => HX.out.dis (lset h (by decide)) (lset h' (by decide)), fun h => getD_set_true (HX.out.c12 (lset h (by decide))), fun h => ⟨getD_set_true (HX.out.c13 (lset h (by decide))).1, getD_set_true (HX.out.c13 (lset h (by decide))).2⟩⟩⟩
    · have hJ := hoj
      simp at hJ
      have l6 : listed.getD 6 false = true := hall ⟨6, .data⟩ (by subst hJ; simp) rfl
      obtain rfl := hx.f6 l6
      have HX : Hid _ := hx
      have HI0 : Hid _ := hi0
      clear hx hall hoj hJ hi hi0
      refine wpOp_step (o := _) rfl fun K' hK => ?_
      rw [if_pos (by rfl)]
      have HK : Hid _ := hK
      clear hK
      go_wp2_with fail
      exact HK.out _ _ ⟨x7, x8, x9, x10, x11, x12, x13, x14, _, _, x17, x18, rfl, ⟨HX.out.bel, fun h => HX.out.f0 (lset h (by decide)), fun h => HX.out.f1 (lset h (by decide)), fun h => HX.out.f2 (lset h (by decide)), fun h => HX.out.f3 (lset h (by decide)), fun h => HX.out.f4 (lset h (by decide)), fun h => HX.out.f5 (lset h (by decide)), fun h => HX.out.f6 (lset h (by decide)), fun _ => rfl, fun h => HX.out.f8 (lset h (by decide)), fun h => HX.out.f9 (lset h (by decide)), fun h => HX.out.f10 (lset h (by decide)), fun h => HX.out.f11 (lset h (by decide)), fun h => HX.out.f12 (lset h (by decide)), fun h => HX.out.f13 (lset h (by decide)), fun h h' => HX.out.dis (lset h (by decide)) (lset h' (by decide)), fun h => getD_set_true (HX.out.c12 (lset h (by decide))), fun h => ⟨getD_set_true (HX.out.c13 (lset h (by decide))).1, getD_set_true (HX.out.c13 (lset h (by decide))).2⟩⟩⟩
    · have hJ := hoj
      simp at hJ
      have l7 : listed.getD 7 false = true := hall ⟨7, .data⟩ (by subst hJ; simp) rfl
      obtain rfl := hx.f7 l7
      have HX : Hid _ := hx
      have HI0 : Hid _ := hi0
      clear hx hall hoj hJ hi hi0
      refine wpOp_step (o := _) rfl fun K' hK => ?_
      rw [if_pos (by rfl)]
      have HK : Hid _ := hK
      clear hK
      go_wp2_with fail
      refine (truth_c _ _).mono ?_
      rintro e w1 ⟨rfl, hb⟩
      have HB : Hid _ := hb
      clear hb
      go_wp2_with fail
      exact HK.out _ _ ⟨x7, x8, x9, x10, x11, x12, x13, x14, x15, _, _, x18, rfl, ⟨(bt HX.out.bel HB.out), fun h => HX.out.f0 (lset h (by decide)), fun h => HX.out.f1 (lset h (by decide)), fun h => HX.out.f2 (lset h (by decide)), fun h => HX.out.f3 (lset h (by decide)), fun h => HX.out.f4 (lset h (by decide)), fun h => HX.out.f5 (lset h (by decide)), fun h => HX.out.f6 (lset h (by decide)), fun h => HX.out.f7 (lset h (by decide)), fun _ => rfl, fun h => HX.out.f9 (lset h (by decide)), fun h => (HX.out.f10 (lset h (by decide))).mono HB.out, fun h => (HX.out.f11 (lset h (by decide))).mono HB.out, fun h => (HX.out.f12 (lset h (by decide))).mono HB.out, fun h => (HX.out.f13 (lset h (by decide))).mono HB.out, fun h h' => HX.out.dis (lset h (by decide)) (lset h' (by decide)), fun h => getD_set_true (HX.out.c12 (lset h (by decide))), fun h => ⟨getD_set_true (HX.out.c13 (lset h (by decide))).1, getD_set_true (HX.out.c13 (lset h (by decide))).2⟩⟩⟩
    · have hJ := hoj
      simp at hJ
      have l8 : listed.getD 8 false = true := hall ⟨8, .data⟩ (by subst hJ; simp) rfl
      obtain rfl := hx.f8 l8
      have HX : Hid _ := hx
      have HI0 : Hid _ := hi0
      clear hx hall hoj hJ hi hi0
      refine wpOp_step (o := _) rfl fun K' hK => ?_
      rw [if_pos (by rfl)]
      have HK : Hid _ := hK
      clear hK
      go_wp2_with fail
      refine (constant_c _ _).mono ?_
      rintro e w1 ⟨rfl, hb⟩
      have HB : Hid _ := hb
      clear hb
      go_wp2_with fail
      exact HK.out _ _ ⟨x7, x8, x9, x10, x11, x12, x13, x14, x15, x16, _, _, rfl, ⟨(bt HX.out.bel HB.out), fun h => HX.out.f0 (lset h (by decide)), fun h => HX.out.f1 (lset h (by decide)), fun h => HX.out.f2 (lset h (by decide)), fun h => HX.out.f3 (lset h (by decide)), fun h => HX.out.f4 (lset h (by decide)), fun h => HX.out.f5 (lset h (by decide)), fun h => HX.out.f6 (lset h (by decide)), fun h => HX.out.f7 (lset h (by decide)), fun h => HX.out.f8 (lset h (by decide)), fun _ => rfl, fun h => (HX.out.f10 (lset h (by decide))).mono HB.out, fun h => (HX.out.f11 (lset h (by decide))).mono HB.out, fun h => (HX.out.f12 (lset h (by decide))).mono HB.out, fun h => (HX.out.f13 (lset h (by decide))).mono HB.out, fun h h' => HX.out.dis (lset h (by decide)) (lset h' (by decide)), fun h => getD_set_true (HX.out.c12 (lset h (by decide))), fun h => ⟨getD_set_true (HX.out.c13 (lset h (by decide))).1, getD_set_true (HX.out.c13 (lset h (by decide))).2⟩⟩⟩
    · have hJ := hoj
      simp at hJ
      have HX : Hid _ := hx
      have HI0 : Hid _ := hi0
      clear hx hall hoj hJ hi hi0
      refine wpOp_step (o := _) rfl fun K' hK => ?_
      rw [if_pos (by rfl)]
      have HK : Hid _ := hK
      clear hK
      go_wp2_with fail
      exact HK.out _ _ ⟨_, x8, x9, x10, x11, x12, x13, x14, x15, x16, x17, x18, rfl, ⟨(bt HX.out.bel (ba (Below.refl _ _) _)), fun h => HX.out.f0 (lset h (by decide)), fun h => HX.out.f1 (lset h (by decide)), fun h => HX.out.f2 (lset h (by decide)), fun h => HX.out.f3 (lset h (by decide)), fun h => HX.out.f4 (lset h (by decide)), fun h => HX.out.f5 (lset h (by decide)), fun h => HX.out.f6 (lset h (by decide)), fun h => HX.out.f7 (lset h (by decide)), fun h => HX.out.f8 (lset h (by decide)), fun h => HX.out.f9 (lset h (by decide)), fun _ => ⟨_, _, _, _, _, _, _, _, rfl, HX.out.bel.size, alloc_at rfl⟩, fun h => (HX.out.f11 (lset h (by decide))).mono (ba (Below.refl _ _) _), fun h => absurd (HX.out.c12 (lset h (by decide))) (by rw [getD_both HI0.out]; decide), fun h => (HX.out.f13 (lset h (by decide))).mono (ba (Below.refl _ _) _), fun _ h' => blk_ne (HX.out.f11 (lset h' (by decide))), fun h => getD_set_true (HX.out.c12 (lset h (by decide))), fun h => ⟨getD_set_true (HX.out.c13 (lset h (by decide))).1, getD_set_true (HX.out.c13 (lset h (by decide))).2⟩⟩⟩
    · have hJ := hoj
      simp at hJ
      have HX : Hid _ := hx
      have HI0 : Hid _ := hi0
      clear hx hall hoj hJ hi hi0
      refine wpOp_step (o := _) rfl fun K' hK => ?_
      rw [if_pos (by rfl)]
      have HK : Hid _ := hK
      clear hK
      go_wp2_with fail
      exact HK.out _ _ ⟨x7, _, x9, x10, x11, x12, x13, x14, x15, x16, x17, x18, rfl, ⟨(bt HX.out.bel (ba (Below.refl _ _) _)), fun h => HX.out.f0 (lset h (by decide)), fun h => HX.out.f1 (lset h (by decide)), fun h => HX.out.f2 (lset h (by decide)), fun h => HX.out.f3 (lset h (by decide)), fun h => HX.out.f4 (lset h (by decide)), fun h => HX.out.f5 (lset h (by decide)), fun h => HX.out.f6 (lset h (by decide)), fun h => HX.out.f7 (lset h (by decide)), fun h => HX.out.f8 (lset h (by decide)), fun h => HX.out.f9 (lset h (by decide)), fun h => (HX.out.f10 (lset h (by decide))).mono (ba (Below.refl _ _) _), fun _ => ⟨_, _, _, _, _, _, _, _, rfl, HX.out.bel.size, alloc_at rfl⟩, fun h => (HX.out.f12 (lset h (by decide))).mono (ba (Below.refl _ _) _), fun h => absurd (HX.out.c13 (lset h (by decide))).2 (by rw [getD_both HI0.out]; decide), fun h _ => (blk_ne (HX.out.f10 (lset h (by decide)))).symm, fun h => getD_set_true (HX.out.c12 (lset h (by decide))), fun h => ⟨getD_set_true (HX.out.c13 (lset h (by decide))).1, getD_set_true (HX.out.c13 (lset h (by decide))).2⟩⟩⟩
    · have hJ := hoj
      simp at hJ
      have l10 : listed.getD 10 false = true := hall ⟨10, .data⟩ (by subst hJ; simp) rfl
      have l4 : listed.getD 4 false = true := hall ⟨4, .data⟩ (by subst hJ; simp) rfl
      obtain rfl := hx.f4 l4
      obtain ⟨n, y0, y1, y2, y3, y4, y5, y6, rfl, hn, hblk⟩ := hx.f10 l10
      have HBK : Hid _ := hblk
      have qc0 := blk_cell hblk 0 rfl
      have qf0 := blk_free hblk 0
      have qc1 := blk_cell hblk 1 rfl
      have qf1 := blk_free hblk 1
      have qc2 := blk_cell hblk 2 rfl
      have qf2 := blk_free hblk 2
      have qc3 := blk_cell hblk 3 rfl
      have qf3 := blk_free hblk 3
      have qc4 := blk_cell hblk 4 rfl
      have qf4 := blk_free hblk 4
      have qc5 := blk_cell hblk 5 rfl
      have qf5 := blk_free hblk 5
      have qc6 := blk_cell hblk 6 rfl
      have qf6 := blk_free hblk 6
      clear hblk
      have HX : Hid _ := hx
      have HI0 : Hid _ := hi0
      clear hx hall hoj hJ hi hi0
      refine wpOp_step (o := _) rfl fun K' hK => ?_
      rw [if_pos (by rfl)]
      have HK : Hid _ := hK
      clear hK
      go_wp2_with fail
      rw [set7 HBK.out]
      have hst := setRow_heap _ _ _ #[.int .i64 0, .int .i64 0, .int .i64 (tr (e.f3 == 11)).f0, .int .i64 (tr (e.f3 == 11)).f1, .string (tr (e.f3 == 11)).f2, .int .i64 0, .slice none 0 0] _ _ HBK.out
      exact HK.out _ _ ⟨_, x8, x9, x10, x11, x12, _, x14, x15, x16, x17, x18, rfl, ⟨(bsr HX.out.bel hn _), fun h => HX.out.f0 (lset h (by decide)), fun h => HX.out.f1 (lset h (by decide)), fun h => HX.out.f2 (lset h (by decide)), fun h => HX.out.f3 (lset h (by decide)), fun h => HX.out.f4 (lset h (by decide)), fun h => HX.out.f5 (lset h (by decide)), fun h => HX.out.f6 (lset h (by decide)), fun h => HX.out.f7 (lset h (by decide)), fun h => HX.out.f8 (lset h (by decide)), fun h => HX.out.f9 (lset h (by decide)), fun _ => ⟨_, _, _, _, _, _, _, _, rfl, hn, hst⟩, fun h => blk_set (HX.out.f11 (lset h (by decide))) (HX.out.dis l10 (lset h (by decide))), fun _ => ⟨_, rfl, hn, hst⟩, fun h => absurd (HX.out.c13 (lset h (by decide))).1 (by rw [getD_both HI0.out]; decide), fun h h' => HX.out.dis (lset h (by decide)) (lset h' (by decide)), fun _ => getD_set_true l10, fun h => ⟨getD_set_true (HX.out.c13 (lset h (by decide))).1, getD_set_true (HX.out.c13 (lset h (by decide))).2⟩⟩⟩
    · have hJ := hoj
      simp at hJ
      have l11 : listed.getD 11 false = true := hall ⟨11, .data⟩ (by subst hJ; simp) rfl
      have l9 : listed.getD 9 false = true := hall ⟨9, .data⟩ (by subst hJ; simp) rfl
      have l12 : listed.getD 12 false = true := hall ⟨12, .chain⟩ (by subst hJ; simp) rfl
      have l10 : listed.getD 10 false = true := hall ⟨10, .phase⟩ (by subst hJ; simp) rfl
      obtain rfl := hx.f9 l9
      obtain ⟨n, y0, y1, y2, y3, y4, y5, y6, rfl, hn, hblk⟩ := hx.f11 l11
      have HBK : Hid _ := hblk
      have qc0 := blk_cell hblk 0 rfl
      have qf0 := blk_free hblk 0
      have qc1 := blk_cell hblk 1 rfl
      have qf1 := blk_free hblk 1
      have qc2 := blk_cell hblk 2 rfl
      have qf2 := blk_free hblk 2
      have qc3 := blk_cell hblk 3 rfl
      have qf3 := blk_free hblk 3
      have qc4 := blk_cell hblk 4 rfl
      have qf4 := blk_free hblk 4
      have qc5 := blk_cell hblk 5 rfl
      have qf5 := blk_free hblk 5
      have qc6 := blk_cell hblk 6 rfl
      have qf6 := blk_free hblk 6
      clear hblk
      have HX : Hid _ := hx
      have HI0 : Hid _ := hi0
      clear hx hall hoj hJ hi hi0
      refine wpOp_step (o := _) rfl fun K' hK => ?_
      rw [if_pos (by rfl)]
      have HK : Hid _ := hK
      clear hK
      go_wp2_with fail
      rw [set7 HBK.out]
      have hst := setRow_heap _ _ _ #[.int .i64 0, .int .i64 0, .int .i64 (tr (e.f3 == 12)).f0, .int .i64 (tr (e.f3 == 12)).f1, .string (tr (e.f3 == 12)).f2, .int .i64 0, .slice none 0 0] _ _ HBK.out
      exact HK.out _ _ ⟨x7, _, x9, x10, x11, x12, x13, x14, x15, x16, x17, _, rfl, ⟨(bsr HX.out.bel hn _), fun h => HX.out.f0 (lset h (by decide)), fun h => HX.out.f1 (lset h (by decide)), fun h => HX.out.f2 (lset h (by decide)), fun h => HX.out.f3 (lset h (by decide)), fun h => HX.out.f4 (lset h (by decide)), fun h => HX.out.f5 (lset h (by decide)), fun h => HX.out.f6 (lset h (by decide)), fun h => HX.out.f7 (lset h (by decide)), fun h => HX.out.f8 (lset h (by decide)), fun h => HX.out.f9 (lset h (by decide)), fun h => (con_set (HX.out.f12 l12) (HX.out.dis l10 l11)).blk, fun _ => ⟨_, _, _, _, _, _, _, _, rfl, hn, hst⟩, fun h => con_set (HX.out.f12 l12) (HX.out.dis l10 l11), fun _ => ⟨_, rfl, hn, hst⟩, fun h h' => HX.out.dis (lset h (by decide)) (lset h' (by decide)), fun h => getD_set_true (HX.out.c12 (lset h (by decide))), fun _ => ⟨getD_set_true l12, getD_set_true l11⟩⟩⟩
  · rintro a' W ⟨x7, x8, x9, x10, x11, x12, x13, x14, x15, x16, x17, x18, rfl, hx⟩
    have ht : ∀ j, j < 14 → (Array.replicate 14 true).getD j false = true := fun j hj => by simp [hj]
    obtain ⟨n, rfl, hn, hbn⟩ := hx.f12 (ht 12 (by decide))
    obtain ⟨m, rfl, hm, hbm⟩ := hx.f13 (ht 13 (by decide))
    have HB : Hid (Below w.heap.size w W) := bt HL0.out hx.bel
    have HA : Hid _ := bk hx.bel HA0.out
    have HBB : Hid _ := bk hx.bel HB0.out
    have HR : Hid _ := bk hx.bel HR0.out
    have HE : Hid _ := bk hx.bel HBA.out
    have HN : Hid _ := hbn
    have HM : Hid _ := hbm
    have i1 := heap_lt hbn
    have i2 := heap_lt hbm
    have i3 := heap_lt HR.out
    have j1 := HA.out
    have pc0 := blk_cell j1 0 rfl
    have pc1 := blk_cell j1 1 rfl
    have pc2 := blk_cell j1 2 rfl
    have pc3 := blk_cell j1 3 rfl
    have pc4 := blk_cell j1 4 rfl
    have pc5 := blk_cell j1 5 rfl
    have pc6 := blk_cell j1 6 rfl
    have j2 := HN.out
    have qc0 := blk_cell j2 0 rfl
    have qc1 := blk_cell j2 1 rfl
    have qc2 := blk_cell j2 2 rfl
    have qc3 := blk_cell j2 3 rfl
    have qc4 := blk_cell j2 4 rfl
    have qc5 := blk_cell j2 5 rfl
    have qc6 := blk_cell j2 6 rfl
    clear hx ht hbn hbm j1 j2 hn hm
    have H1 : Hid _ := h1
    have H2 : Hid _ := h2
    clear h0 h1 h2
    have EA : Hid _ := Equal_c a
    have EB : Hid _ := Equal_c b
    go_wp2_with fail
    refine (EA.out (con (tr (e.f3 == 11))) _ A1 c1 none 0 (ScRow.lowE H1.out HB.out HB.out.size) (Row.nil _)).mono ?_
    rintro x w1 ⟨rfl, hb⟩
    have HB1 : Hid (Below w.heap.size w w1) := bt HB.out hb
    have HA1 : Hid _ := bk hb HA.out
    have HBB1 : Hid _ := bk hb HBB.out
    have HR1 : Hid _ := bk hb HR.out
    have HE1 : Hid _ := bk hb HE.out
    have HN1 : Hid _ := bk hb HN.out
    have HM1 : Hid _ := bk hb HM.out
    clear hb
    by_cases g1 : a = con (tr (e.f3 == 11))
    · rw [decide_eq_true g1]
      have G1 : Hid _ := g1
      clear g1
      have j1 := HBB1.out
      have bc0 := blk_cell j1 0 rfl
      have bc1 := blk_cell j1 1 rfl
      have bc2 := blk_cell j1 2 rfl
      have bc3 := blk_cell j1 3 rfl
      have bc4 := blk_cell j1 4 rfl
      have bc5 := blk_cell j1 5 rfl
      have bc6 := blk_cell j1 6 rfl
      clear j1
      have r := HR1.out
      have HRR : Hid _ := r
      have zc0 := blk_cell r 0 rfl
      have zf0 := blk_free r 0
      have zc1 := blk_cell r 1 rfl
      have zf1 := blk_free r 1
      have zc2 := blk_cell r 2 rfl
      have zf2 := blk_free r 2
      have zc3 := blk_cell r 3 rfl
      have zf3 := blk_free r 3
      have zc4 := blk_cell r 4 rfl
      have zf4 := blk_free r 4
      have zc5 := blk_cell r 5 rfl
      have zf5 := blk_free r 5
      have zc6 := blk_cell r 6 rfl
      have zf6 := blk_free r 6
      clear r
      go_wp2_with fail
      rw [set7 HRR.out]
      refine bodyPost_ret (ret1 Tryz.results95 rfl (setRow_heap _ _ _ _ _ _ HRR.out) Tryz.isAgg26 Tryz.sizeOf26) rfl ⟨⟨b, A2, c2, rfl, by rw [logic_eq]; rw [if_pos G1.out], .inr (.inr (.inl ⟨rfl, rfl, rfl⟩))⟩, bsr HB1.out (by omega) _⟩
    · rw [decide_eq_false g1]
      have G1 : Hid _ := g1
      clear g1
      have j1 := HBB1.out
      have bc0 := blk_cell j1 0 rfl
      have bc1 := blk_cell j1 1 rfl
      have bc2 := blk_cell j1 2 rfl
      have bc3 := blk_cell j1 3 rfl
      have bc4 := blk_cell j1 4 rfl
      have bc5 := blk_cell j1 5 rfl
      have bc6 := blk_cell j1 6 rfl
      have j2 := HN1.out
      have uc0 := blk_cell j2 0 rfl
      have uc1 := blk_cell j2 1 rfl
      have uc2 := blk_cell j2 2 rfl
      have uc3 := blk_cell j2 3 rfl
      have uc4 := blk_cell j2 4 rfl
      have uc5 := blk_cell j2 5 rfl
      have uc6 := blk_cell j2 6 rfl
      clear j1 j2
      go_wp2_with fail
      refine (EB.out (con (tr (e.f3 == 11))) _ A2 c2 none 0 (ScRow.lowE H2.out HB1.out HB1.out.size) (Row.nil _)).mono ?_
      rintro x w2 ⟨rfl, hb⟩
      have HB2 : Hid (Below w.heap.size w w2) := bt HB1.out hb
      have HA2 : Hid _ := bk hb HA1.out
      have HBB2 : Hid _ := bk hb HBB1.out
      have HR2 : Hid _ := bk hb HR1.out
      have HE2 : Hid _ := bk hb HE1.out
      have HM2 : Hid _ := bk hb HM1.out
      clear hb
      by_cases g2 : b = con (tr (e.f3 == 11))
      · rw [decide_eq_true g2]
        have G2 : Hid _ := g2
        clear g2
        have j1 := HA2.out
        have vc0 := blk_cell j1 0 rfl
        have vc1 := blk_cell j1 1 rfl
        have vc2 := blk_cell j1 2 rfl
        have vc3 := blk_cell j1 3 rfl
        have vc4 := blk_cell j1 4 rfl
        have vc5 := blk_cell j1 5 rfl
        have vc6 := blk_cell j1 6 rfl
        clear j1
        have r := HR2.out
        have HRR : Hid _ := r
        have zc0 := blk_cell r 0 rfl
        have zf0 := blk_free r 0
        have zc1 := blk_cell r 1 rfl
        have zf1 := blk_free r 1
        have zc2 := blk_cell r 2 rfl
        have zf2 := blk_free r 2
        have zc3 := blk_cell r 3 rfl
        have zf3 := blk_free r 3
        have zc4 := blk_cell r 4 rfl
        have zf4 := blk_free r 4
        have zc5 := blk_cell r 5 rfl
        have zf5 := blk_free r 5
        have zc6 := blk_cell r 6 rfl
        have zf6 := blk_free r 6
        clear r
        go_wp2_with fail
        rw [set7 HRR.out]
        refine bodyPost_ret (ret1 Tryz.results95 rfl (setRow_heap _ _ _ _ _ _ HRR.out) Tryz.isAgg26 Tryz.sizeOf26) rfl ⟨⟨a, A1, c1, rfl, by rw [logic_eq]; rw [if_neg G1.out, if_pos G2.out], .inr (.inl ⟨rfl, rfl, rfl⟩)⟩, bsr HB2.out (by omega) _⟩
      · rw [decide_eq_false g2]
        have G2 : Hid _ := g2
        clear g2
        have j1 := HA2.out
        have vc0 := blk_cell j1 0 rfl
        have vc1 := blk_cell j1 1 rfl
        have vc2 := blk_cell j1 2 rfl
        have vc3 := blk_cell j1 3 rfl
        have vc4 := blk_cell j1 4 rfl
        have vc5 := blk_cell j1 5 rfl
        have vc6 := blk_cell j1 6 rfl
        have j2 := HM2.out
        have kc0 := blk_cell j2 0 rfl
        have kc1 := blk_cell j2 1 rfl
        have kc2 := blk_cell j2 2 rfl
        have kc3 := blk_cell j2 3 rfl
        have kc4 := blk_cell j2 4 rfl
        have kc5 := blk_cell j2 5 rfl
        have kc6 := blk_cell j2 6 rfl
        clear j1 j2
        go_wp2_with fail
        refine (EA.out (con (tr (e.f3 == 12))) _ A1 c1 none 0 (ScRow.lowE H1.out HB2.out HB2.out.size) (Row.nil _)).mono ?_
        rintro x w3 ⟨rfl, hb⟩
        have HB3 : Hid (Below w.heap.size w w3) := bt HB2.out hb
        have HBB3 : Hid _ := bk hb HBB2.out
        have HR3 : Hid _ := bk hb HR2.out
        have HE3 : Hid _ := bk hb HE2.out
        have HM3 : Hid _ := bk hb HM2.out
        clear hb
        by_cases g3 : a = con (tr (e.f3 == 12))
        · rw [decide_eq_true g3]
          have G3 : Hid _ := g3
          clear g3
          have j2 := HM3.out
          have lc0 := blk_cell j2 0 rfl
          have lc1 := blk_cell j2 1 rfl
          have lc2 := blk_cell j2 2 rfl
          have lc3 := blk_cell j2 3 rfl
          have lc4 := blk_cell j2 4 rfl
          have lc5 := blk_cell j2 5 rfl
          have lc6 := blk_cell j2 6 rfl
          clear j2
          have r := HR3.out
          have HRR : Hid _ := r
          have zc0 := blk_cell r 0 rfl
          have zf0 := blk_free r 0
          have zc1 := blk_cell r 1 rfl
          have zf1 := blk_free r 1
          have zc2 := blk_cell r 2 rfl
          have zf2 := blk_free r 2
          have zc3 := blk_cell r 3 rfl
          have zf3 := blk_free r 3
          have zc4 := blk_cell r 4 rfl
          have zf4 := blk_free r 4
          have zc5 := blk_cell r 5 rfl
          have zf5 := blk_free r 5
          have zc6 := blk_cell r 6 rfl
          have zf6 := blk_free r 6
          clear r
          go_wp2_with fail
          rw [set7 HRR.out]
          refine bodyPost_ret (ret1 Tryz.results95 rfl (setRow_heap _ _ _ _ _ _ HRR.out) Tryz.isAgg26 Tryz.sizeOf26) rfl ⟨⟨con (tr (e.f3 == 12)), none, 0, rfl, by rw [logic_eq]; rw [if_neg G1.out, if_neg G2.out, if_pos (.inl G3.out)], .inr (.inr (.inr ⟨rfl, rfl, rfl⟩))⟩, bsr HB3.out (by omega) _⟩
        · rw [decide_eq_false g3]
          have G3 : Hid _ := g3
          clear g3
          have j1 := HBB3.out
          have rc0 := blk_cell j1 0 rfl
          have rc1 := blk_cell j1 1 rfl
          have rc2 := blk_cell j1 2 rfl
          have rc3 := blk_cell j1 3 rfl
          have rc4 := blk_cell j1 4 rfl
          have rc5 := blk_cell j1 5 rfl
          have rc6 := blk_cell j1 6 rfl
          have j2 := HM3.out
          have lc0 := blk_cell j2 0 rfl
          have lc1 := blk_cell j2 1 rfl
          have lc2 := blk_cell j2 2 rfl
          have lc3 := blk_cell j2 3 rfl
          have lc4 := blk_cell j2 4 rfl
          have lc5 := blk_cell j2 5 rfl
          have lc6 := blk_cell j2 6 rfl
          clear j1 j2
          go_wp2_with fail
          refine (EB.out (con (tr (e.f3 == 12))) _ A2 c2 none 0 (ScRow.lowE H2.out HB3.out HB3.out.size) (Row.nil _)).mono ?_
          rintro x w4 ⟨rfl, hb⟩
          have HB4 : Hid (Below w.heap.size w w4) := bt HB3.out hb
          have HR4 : Hid _ := bk hb HR3.out
          have HE4 : Hid _ := bk hb HE3.out
          have HM4 : Hid _ := bk hb HM3.out
          clear hb
          by_cases g4 : b = con (tr (e.f3 == 12))
          · rw [decide_eq_true g4]
            have G4 : Hid _ := g4
            clear g4
            have j2 := HM4.out
            have sc0 := blk_cell j2 0 rfl
            have sc1 := blk_cell j2 1 rfl
            have sc2 := blk_cell j2 2 rfl
            have sc3 := blk_cell j2 3 rfl
            have sc4 := blk_cell j2 4 rfl
            have sc5 := blk_cell j2 5 rfl
            have sc6 := blk_cell j2 6 rfl
            clear j2
            have r := HR4.out
            have HRR : Hid _ := r
            have zc0 := blk_cell r 0 rfl
            have zf0 := blk_free r 0
            have zc1 := blk_cell r 1 rfl
            have zf1 := blk_free r 1
            have zc2 := blk_cell r 2 rfl
            have zf2 := blk_free r 2
            have zc3 := blk_cell r 3 rfl
            have zf3 := blk_free r 3
            have zc4 := blk_cell r 4 rfl
            have zf4 := blk_free r 4
            have zc5 := blk_cell r 5 rfl
            have zf5 := blk_free r 5
            have zc6 := blk_cell r 6 rfl
            have zf6 := blk_free r 6
            clear r
            go_wp2_with fail
            rw [set7 HRR.out]
            refine bodyPost_ret (ret1 Tryz.results95 rfl (setRow_heap _ _ _ _ _ _ HRR.out) Tryz.isAgg26 Tryz.sizeOf26) rfl ⟨⟨con (tr (e.f3 == 12)), none, 0, rfl, by rw [logic_eq]; rw [if_neg G1.out, if_neg G2.out, if_pos (.inr G4.out)], .inr (.inr (.inr ⟨rfl, rfl, rfl⟩))⟩, bsr HB4.out (by omega) _⟩
          · rw [decide_eq_false g4]
            have G4 : Hid _ := g4
            clear g4
            have j2 := HE4.out
            have sc0 := blk_cell j2 0 rfl
            have sc1 := blk_cell j2 1 rfl
            have sc2 := blk_cell j2 2 rfl
            have sc3 := blk_cell j2 3 rfl
            have sc4 := blk_cell j2 4 rfl
            have sc5 := blk_cell j2 5 rfl
            have sc6 := blk_cell j2 6 rfl
            clear j2
            have r := HR4.out
            have HRR : Hid _ := r
            have zc0 := blk_cell r 0 rfl
            have zf0 := blk_free r 0
            have zc1 := blk_cell r 1 rfl
            have zf1 := blk_free r 1
            have zc2 := blk_cell r 2 rfl
            have zf2 := blk_free r 2
            have zc3 := blk_cell r 3 rfl
            have zf3 := blk_free r 3
            have zc4 := blk_cell r 4 rfl
            have zf4 := blk_free r 4
            have zc5 := blk_cell r 5 rfl
            have zf5 := blk_free r 5
            have zc6 := blk_cell r 6 rfl
            have zf6 := blk_free r 6
            clear r
            go_wp2_with fail
            rw [set7 HRR.out]
            refine bodyPost_ret (ret1 Tryz.results95 rfl (setRow_heap _ _ _ _ _ _ HRR.out) Tryz.isAgg26 Tryz.sizeOf26) rfl ⟨⟨e, A0, c0, rfl, by rw [logic_eq]; rw [if_neg G1.out, if_neg G2.out, if_neg (fun h => h.elim G3.out G4.out)], .inl ⟨rfl, rfl, rfl⟩⟩, bsr HB4.out (by omega) _⟩
end Go.Proofs.YtemedepjmnncbaaGreatDoor
