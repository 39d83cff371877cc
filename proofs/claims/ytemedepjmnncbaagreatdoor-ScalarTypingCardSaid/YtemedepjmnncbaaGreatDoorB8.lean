import Derived.Test.YtemedepjmnncbaaGreatDoorB7
import Derived.Test.YtemedepjmnncbaaGreatDoorA20
namespace Go.Proofs.YtemedepjmnncbaaGreatDoor
set_option linter.unusedVariables false
set_option linter.unusedSimpArgs false
open Go.RowKit Go.Shelf Pu
structure Ty7 (W0 W : World) (aV bV : Value) (vb eq : Bool) (t1 t2 : Int) (L : Nat → Prop) (x6 x30 x31 x32 x33 x34 x35 x36 x37 x38 x39 x40 x41 x42 x43 x44 x45 x46 x47 x48 x49 x50 x51 x52 x53 : Value) : Prop where
  bel : Below W0.heap.size W0 W
  f0 : L 0 → x30 = aV
  f1 : L 1 → x31 = .bool vb
  f2 : L 2 → x32 = aV
  f3 : L 3 → x33 = .bool vb
  f4 : L 4 → x34 = .bool true
  f5 : L 5 → x35 = .bool true
  f6 : L 6 → x36 = .int .i64 t1
  f7 : L 7 → x37 = .int .i64 t1
  f8 : L 8 → x38 = .bool true
  f9 : L 9 → x39 = .bool true
  f10 : L 10 → x40 = .bool true
  f11 : L 11 → x41 = .int .i64 t2
  f12 : L 12 → x42 = .int .i64 t2
  f13 : L 13 → x43 = .bool true
  f14 : L 14 → x44 = .bool true
  f15 : L 15 → x45 = .bool true
  f16 : L 16 → x46 = aV
  f17 : L 17 → x47 = bV
  f18 : L 18 → x48 = .bool eq
  f19 : L 19 → x49 = aV
  f20 : L 20 → x50 = bV
  f21 : L 21 → x51 = .bool eq
  f22 : L 22 → x52 = .bool true
  f23 : L 23 → x53 = .bool true
  f24 : L 24 → x6 = .bool true
def Ty7I (W0 : World) (aV bV : Value) (vb eq : Bool) (t1 t2 : Int) (a0 : Act) (listed : Array Bool) (a : Act) (W : World) : Prop :=
  ∃ x6 x30 x31 x32 x33 x34 x35 x36 x37 x38 x39 x40 x41 x42 x43 x44 x45 x46 x47 x48 x49 x50 x51 x52 x53, a = { tmps := (((((((((((((((((((((((((a0.tmps.setIfInBounds 6 x6).setIfInBounds 30 x30).setIfInBounds 31 x31).setIfInBounds 32 x32).setIfInBounds 33 x33).setIfInBounds 34 x34).setIfInBounds 35 x35).setIfInBounds 36 x36).setIfInBounds 37 x37).setIfInBounds 38 x38).setIfInBounds 39 x39).setIfInBounds 40 x40).setIfInBounds 41 x41).setIfInBounds 42 x42).setIfInBounds 43 x43).setIfInBounds 44 x44).setIfInBounds 45 x45).setIfInBounds 46 x46).setIfInBounds 47 x47).setIfInBounds 48 x48).setIfInBounds 49 x49).setIfInBounds 50 x50).setIfInBounds 51 x51).setIfInBounds 52 x52).setIfInBounds 53 x53), defers := [] } ∧ Ty7 W0 W aV bV vb eq t1 t2 (fun j => listed.getD j false = true) x6 x30 x31 x32 x33 x34 x35 x36 x37 x38 x39 x40 x41 x42 x43 x44 x45 x46 x47 x48 x49 x50 x51 x52 x53
set_option maxRecDepth 100000 in
set_option maxHeartbeats 8000000 in
theorem typing_c (a b : Sc) (cs : List Co) (A B R : Option Addr) (ca cb cr : Nat) (w : World) (hE : Env w) (hWa : scW a) (hWb : scW b) (hca : a.f4.length ≤ ca) (hcb : b.f4.length ≤ cb) (hra : ScRow (· < w.heap.size) w A a.f4) (hrb : ScRow (· < w.heap.size) w B b.f4) (hrow : CoRow (· < w.heap.size) w R cs) :
    Calls Tryz.prog 3 #[scV a A ca, scV b B cb, .slice R cs.length cr] w fun e w' => e = .returned (.bool true) ∧ Below w.heap.size w w' := by
  have hla := hra.1
  have hlb := hrb.1
  have hlr := hrow.1
  have HE : Hid _ := hE
  have HW : Hid (scW a ∧ scW b) := ⟨hWa, hWb⟩
  have HRA : Hid _ := hra
  have HRB : Hid _ := hrb
  have HRO : Hid _ := hrow
  clear hE hWa hWb hra hrb hrow
  go_enter Tryz.func3, Tryz.ntmps3
  go_wp2_with fail
  refine (awake_c _ (Env.below HE.out (ba (ba (Below.refl _ _) _) _))).mono ?_
  rintro e w1 ⟨rfl, hb⟩
  have HB1 : Hid (Below w.heap.size w w1) := bt (ba (ba (Below.refl _ _) _) _) hb
  have HA1 : Hid _ := bk hb (n := w.heap.size) (alloc_lt (alloc_at rfl))
  have HB1b : Hid _ := bk hb (n := w.heap.size + 1) (alloc_at (by simp))
  clear hb
  have hz := HA1.out
  have zc0 := blk_cell hz 0 rfl
  have zc1 := blk_cell hz 1 rfl
  have zc2 := blk_cell hz 2 rfl
  have zc3 := blk_cell hz 3 rfl
  have zc4 := blk_cell hz 4 rfl
  have zc5 := blk_cell hz 5 rfl
  have zc6 := blk_cell hz 6 rfl
  have hy := HB1b.out
  have yc0 := blk_cell hy 0 rfl
  have yc1 := blk_cell hy 1 rfl
  have yc2 := blk_cell hy 2 rfl
  have yc3 := blk_cell hy 3 rfl
  have yc4 := blk_cell hy 4 rfl
  have yc5 := blk_cell hy 5 rfl
  have yc6 := blk_cell hy 6 rfl
  clear hz hy
  go_wp2_with fail
  refine (light_c [] none 0 [a, b] (some ⟨w1.heap.size, 0, none⟩) 2 _ (Row.nil _) (two_row (t := 26) (fr := (0, 0)) (x := a) (y := b) (Ax := A) (cx := ca) (Ay := B) (cy := cb) (alloc_at rfl) (by simp) hca (ScRow.lowE HRA.out (ba HB1.out _) (by have := HB1.out.size; simp; omega)) hcb (ScRow.lowE HRB.out (ba HB1.out _) (by have := HB1.out.size; simp; omega)))).mono ?_
  rintro e w2 ⟨rfl, hb⟩
  have HB2 : Hid (Below w.heap.size w w2) := bt (ba HB1.out _) hb
  have HA2 : Hid _ := bk hb (alloc_lt HA1.out)
  have HB2b : Hid _ := bk hb (alloc_lt HB1b.out)
  clear hb zc0 zc1 zc2 zc3 zc4 zc5 zc6 yc0 yc1 yc2 yc3 yc4 yc5 yc6
  cases lightB [] [a, b] with
  | false =>
    go_wp2_with fail
    go_ret
    exact ⟨rfl, HB2.out⟩
  | true =>
    have hz := HA2.out
    have zc0 := blk_cell hz 0 rfl
    have zc1 := blk_cell hz 1 rfl
    have zc2 := blk_cell hz 2 rfl
    have zc3 := blk_cell hz 3 rfl
    have zc4 := blk_cell hz 4 rfl
    have zc5 := blk_cell hz 5 rfl
    have zc6 := blk_cell hz 6 rfl
    clear hz
    go_wp2_with fail
    refine (Type_c cs a A ca R cr _ HW.out.1 hca (ScRow.lowE HRA.out HB2.out HB2.out.size) (CoRow.low HRO.out HB2.out HB2.out.size)).mono ?_
    rintro e w3 ⟨rfl, hb⟩
    have HB3 : Hid (Below w.heap.size w w3) := bt HB2.out hb
    have HA3 : Hid _ := bk hb HA2.out
    have HB3b : Hid _ := bk hb HB2b.out
    clear hb zc0 zc1 zc2 zc3 zc4 zc5 zc6
    have hz := HA3.out
    have zc0 := blk_cell hz 0 rfl
    have zc1 := blk_cell hz 1 rfl
    have zc2 := blk_cell hz 2 rfl
    have zc3 := blk_cell hz 3 rfl
    have zc4 := blk_cell hz 4 rfl
    have zc5 := blk_cell hz 5 rfl
    have zc6 := blk_cell hz 6 rfl
    clear hz
    go_wp2_with fail
    refine (rType_c cs a A ca R cr _ hca (ScRow.lowE HRA.out HB3.out HB3.out.size) (CoRow.low HRO.out HB3.out HB3.out.size)).mono ?_
    rintro e WX ⟨rfl, hb⟩
    have HBX0 : Hid (Below w.heap.size w WX) := bt HB3.out hb
    have HKa : Hid _ := bk hb HA3.out
    have HKb : Hid _ := bk hb HB3b.out
    clear hb zc0 zc1 zc2 zc3 zc4 zc5 zc6
    go_wp2_with fail
    have HVa : Hid (∀ W', Below WX.heap.size WX W' → Calls Tryz.prog 16 #[.agg #[.int .i64 a.f0, .int .i64 a.f1, .int .i64 a.f2.f0, .int .i64 a.f2.f1, .string a.f2.f2, .int .i64 a.f3, .slice A a.f4.length ca]] W' fun e w' => e = .returned (.bool (valid a)) ∧ Below W'.heap.size W' w') :=
      fun W' hW => valid_c a A ca W' HW.out.1 hca (ScRow.lowE HRA.out (bt HBX0.out hW) (bt HBX0.out hW).size)
    have HVb : Hid (∀ W', Below WX.heap.size WX W' → Calls Tryz.prog 17 #[.agg #[.int .i64 a.f0, .int .i64 a.f1, .int .i64 a.f2.f0, .int .i64 a.f2.f1, .string a.f2.f2, .int .i64 a.f3, .slice A a.f4.length ca]] W' fun e w' => e = .returned (.bool (valid a)) ∧ Below W'.heap.size W' w') :=
      fun W' hW => rValid_c a A ca W' hca (ScRow.lowE HRA.out (bt HBX0.out hW) (bt HBX0.out hW).size)
    have HQa : Hid (∀ W', Below WX.heap.size WX W' → Calls Tryz.prog 18 #[.agg #[.int .i64 a.f0, .int .i64 a.f1, .int .i64 a.f2.f0, .int .i64 a.f2.f1, .string a.f2.f2, .int .i64 a.f3, .slice A a.f4.length ca], .agg #[.int .i64 b.f0, .int .i64 b.f1, .int .i64 b.f2.f0, .int .i64 b.f2.f1, .string b.f2.f2, .int .i64 b.f3, .slice B b.f4.length cb]] W' fun e w' => e = .returned (.bool (decide (a = b))) ∧ Below W'.heap.size W' w') :=
      fun W' hW => Equal_c a b W' A ca B cb (ScRow.lowE HRA.out (bt HBX0.out hW) (bt HBX0.out hW).size) (ScRow.lowE HRB.out (bt HBX0.out hW) (bt HBX0.out hW).size)
    have HQb : Hid (∀ W', Below WX.heap.size WX W' → Calls Tryz.prog 19 #[.agg #[.int .i64 a.f0, .int .i64 a.f1, .int .i64 a.f2.f0, .int .i64 a.f2.f1, .string a.f2.f2, .int .i64 a.f3, .slice A a.f4.length ca], .agg #[.int .i64 b.f0, .int .i64 b.f1, .int .i64 b.f2.f0, .int .i64 b.f2.f1, .string b.f2.f2, .int .i64 b.f3, .slice B b.f4.length cb]] W' fun e w' => e = .returned (.bool (decide (a = b))) ∧ Below W'.heap.size W' w') :=
      fun W' hW => rEqual_c a b W' A ca B cb (ScRow.lowE HRA.out (bt HBX0.out hW) (bt HBX0.out hW).size) (ScRow.lowE HRB.out (bt HBX0.out hW) (bt HBX0.out hW).size)
    generalize decide (a = b) = eq at HQa HQb
    generalize valid a = vb at HVa HVb
    generalize (TypeP cs a).1 = t1
    generalize (TypeP cs a).2 = t2
    refine wp_region_inv2 (by kernel_rfl) (Ty7I WX (.agg #[.int .i64 a.f0, .int .i64 a.f1, .int .i64 a.f2.f0, .int .i64 a.f2.f1, .string a.f2.f2, .int .i64 a.f3, .slice A a.f4.length ca]) (.agg #[.int .i64 b.f0, .int .i64 b.f1, .int .i64 b.f2.f0, .int .i64 b.f2.f1, .string b.f2.f2, .int .i64 b.f3, .slice B b.f4.length cb]) vb eq t1 t2) (by kernel_rfl) ?_ ?_ ?_
    · refine ⟨.bool false, undef, undef, undef, undef, undef, undef, undef, undef, undef, undef, undef, undef, undef, undef, undef, undef, undef, undef, undef, undef, undef, undef, undef, undef, ?_, ?_⟩
      · simp only [List.setIfInBounds_toArray, List.set_cons_succ, List.set_cons_zero]
      · constructor
        · exact bd (Below.refl _ _)
        all_goals (intro h; simp at h)
    · intro listed a' WW hsz hI i hi
      obtain ⟨hi0, oj, hoj, hall⟩ := mem_ready.1 hi
      have hlt2 : i < 25 := (Array.getElem?_eq_some_iff.1 hoj).1
      obtain ⟨x6, x30, x31, x32, x33, x34, x35, x36, x37, x38, x39, x40, x41, x42, x43, x44, x45, x46, x47, x48, x49, x50, x51, x52, x53, rfl, hx⟩ := hI
      have hcs : i = 0 ∨ i = 1 ∨ i = 2 ∨ i = 3 ∨ i = 4 ∨ i = 5 ∨ i = 6 ∨ i = 7 ∨ i = 8 ∨ i = 9 ∨ i = 10 ∨ i = 11 ∨ i = 12 ∨ i = 13 ∨ i = 14 ∨ i = 15 ∨ i = 16 ∨ i = 17 ∨ i = 18 ∨ i = 19 ∨ i = 20 ∨ i = 21 ∨ i = 22 ∨ i = 23 ∨ i = 24 := by omega
      clear hlt2
      rcases hcs with rfl | rfl | rfl | rfl | rfl | rfl | rfl | rfl | rfl | rfl | rfl | rfl | rfl | rfl | rfl | rfl | rfl | rfl | rfl | rfl | rfl | rfl | rfl | rfl | rfl
      · have hJ := hoj
        simp at hJ
        have hz := bk hx.bel HKa.out
        have zc0 := blk_cell hz 0 rfl
        have zc1 := blk_cell hz 1 rfl
        have zc2 := blk_cell hz 2 rfl
        have zc3 := blk_cell hz 3 rfl
        have zc4 := blk_cell hz 4 rfl
        have zc5 := blk_cell hz 5 rfl
        have zc6 := blk_cell hz 6 rfl
        clear hz
        have HX : Hid _ := hx
        have HI0 : Hid _ := hi0
        clear hx hall hoj hJ hi hi0
        simp only [List.setIfInBounds_toArray, List.set_cons_succ, List.set_cons_zero]
        refine wpOp_step (o := _) rfl fun K' hK => ?_
        rw [if_pos (by kernel_rfl)]
        have HK9 : Hid _ := hK
        clear hK
        go_wp2_with fail
        exact HK9.out _ _ ⟨x6, (.agg #[.int .i64 a.f0, .int .i64 a.f1, .int .i64 a.f2.f0, .int .i64 a.f2.f1, .string a.f2.f2, .int .i64 a.f3, .slice A a.f4.length ca]), x31, x32, x33, x34, x35, x36, x37, x38, x39, x40, x41, x42, x43, x44, x45, x46, x47, x48, x49, x50, x51, x52, x53, by simp only [Act.put, List.setIfInBounds_toArray, List.set_cons_succ, List.set_cons_zero], ⟨HX.out.bel, fun _ => rfl, fun h => HX.out.f1 (lset h (by decide)), fun h => HX.out.f2 (lset h (by decide)), fun h => HX.out.f3 (lset h (by decide)), fun h => HX.out.f4 (lset h (by decide)), fun h => HX.out.f5 (lset h (by decide)), fun h => HX.out.f6 (lset h (by decide)), fun h => HX.out.f7 (lset h (by decide)), fun h => HX.out.f8 (lset h (by decide)), fun h => HX.out.f9 (lset h (by decide)), fun h => HX.out.f10 (lset h (by decide)), fun h => HX.out.f11 (lset h (by decide)), fun h => HX.out.f12 (lset h (by decide)), fun h => HX.out.f13 (lset h (by decide)), fun h => HX.out.f14 (lset h (by decide)), fun h => HX.out.f15 (lset h (by decide)), fun h => HX.out.f16 (lset h (by decide)), fun h => HX.out.f17 (lset h (by decide)), fun h => HX.out.f18 (lset h (by decide)), fun h => HX.out.f19 (lset h (by decide)), fun h => HX.out.f20 (lset h (by decide)), fun h => HX.out.f21 (lset h (by decide)), fun h => HX.out.f22 (lset h (by decide)), fun h => HX.out.f23 (lset h (by decide)), fun h => HX.out.f24 (lset h (by decide))⟩⟩
      · have hJ := hoj
        simp at hJ
        have l0 : listed.getD 0 false = true := hall ⟨0, .data⟩ (by subst hJ; simp) rfl
        obtain rfl := hx.f0 l0
        have HX : Hid _ := hx
        have HI0 : Hid _ := hi0
        clear hx hall hoj hJ hi hi0
        simp only [List.setIfInBounds_toArray, List.set_cons_succ, List.set_cons_zero]
        refine wpOp_step (o := _) rfl fun K' hK => ?_
        rw [if_pos (by kernel_rfl)]
        have HK9 : Hid _ := hK
        clear hK
        go_wp2_with fail
        refine (HVa.out _ HX.out.bel).mono ?_
        rintro e w1 ⟨rfl, hb⟩
        have HBX : Hid _ := hb
        clear hb
        go_wp2_with fail
        exact HK9.out _ _ ⟨x6, (.agg #[.int .i64 a.f0, .int .i64 a.f1, .int .i64 a.f2.f0, .int .i64 a.f2.f1, .string a.f2.f2, .int .i64 a.f3, .slice A a.f4.length ca]), .bool vb, x32, x33, x34, x35, x36, x37, x38, x39, x40, x41, x42, x43, x44, x45, x46, x47, x48, x49, x50, x51, x52, x53, by simp only [Act.put, List.setIfInBounds_toArray, List.set_cons_succ, List.set_cons_zero], ⟨bt HX.out.bel HBX.out, fun h => HX.out.f0 (lset h (by decide)), fun _ => rfl, fun h => HX.out.f2 (lset h (by decide)), fun h => HX.out.f3 (lset h (by decide)), fun h => HX.out.f4 (lset h (by decide)), fun h => HX.out.f5 (lset h (by decide)), fun h => HX.out.f6 (lset h (by decide)), fun h => HX.out.f7 (lset h (by decide)), fun h => HX.out.f8 (lset h (by decide)), fun h => HX.out.f9 (lset h (by decide)), fun h => HX.out.f10 (lset h (by decide)), fun h => HX.out.f11 (lset h (by decide)), fun h => HX.out.f12 (lset h (by decide)), fun h => HX.out.f13 (lset h (by decide)), fun h => HX.out.f14 (lset h (by decide)), fun h => HX.out.f15 (lset h (by decide)), fun h => HX.out.f16 (lset h (by decide)), fun h => HX.out.f17 (lset h (by decide)), fun h => HX.out.f18 (lset h (by decide)), fun h => HX.out.f19 (lset h (by decide)), fun h => HX.out.f20 (lset h (by decide)), fun h => HX.out.f21 (lset h (by decide)), fun h => HX.out.f22 (lset h (by decide)), fun h => HX.out.f23 (lset h (by decide)), fun h => HX.out.f24 (lset h (by decide))⟩⟩
      · have hJ := hoj
        simp at hJ
        have hz := bk hx.bel HKa.out
        have zc0 := blk_cell hz 0 rfl
        have zc1 := blk_cell hz 1 rfl
        have zc2 := blk_cell hz 2 rfl
        have zc3 := blk_cell hz 3 rfl
        have zc4 := blk_cell hz 4 rfl
        have zc5 := blk_cell hz 5 rfl
        have zc6 := blk_cell hz 6 rfl
        clear hz
        have HX : Hid _ := hx
        have HI0 : Hid _ := hi0
        clear hx hall hoj hJ hi hi0
        simp only [List.setIfInBounds_toArray, List.set_cons_succ, List.set_cons_zero]
        refine wpOp_step (o := _) rfl fun K' hK => ?_
        rw [if_pos (by kernel_rfl)]
        have HK9 : Hid _ := hK
        clear hK
        go_wp2_with fail
        exact HK9.out _ _ ⟨x6, x30, x31, (.agg #[.int .i64 a.f0, .int .i64 a.f1, .int .i64 a.f2.f0, .int .i64 a.f2.f1, .string a.f2.f2, .int .i64 a.f3, .slice A a.f4.length ca]), x33, x34, x35, x36, x37, x38, x39, x40, x41, x42, x43, x44, x45, x46, x47, x48, x49, x50, x51, x52, x53, by simp only [Act.put, List.setIfInBounds_toArray, List.set_cons_succ, List.set_cons_zero], ⟨HX.out.bel, fun h => HX.out.f0 (lset h (by decide)), fun h => HX.out.f1 (lset h (by decide)), fun _ => rfl, fun h => HX.out.f3 (lset h (by decide)), fun h => HX.out.f4 (lset h (by decide)), fun h => HX.out.f5 (lset h (by decide)), fun h => HX.out.f6 (lset h (by decide)), fun h => HX.out.f7 (lset h (by decide)), fun h => HX.out.f8 (lset h (by decide)), fun h => HX.out.f9 (lset h (by decide)), fun h => HX.out.f10 (lset h (by decide)), fun h => HX.out.f11 (lset h (by decide)), fun h => HX.out.f12 (lset h (by decide)), fun h => HX.out.f13 (lset h (by decide)), fun h => HX.out.f14 (lset h (by decide)), fun h => HX.out.f15 (lset h (by decide)), fun h => HX.out.f16 (lset h (by decide)), fun h => HX.out.f17 (lset h (by decide)), fun h => HX.out.f18 (lset h (by decide)), fun h => HX.out.f19 (lset h (by decide)), fun h => HX.out.f20 (lset h (by decide)), fun h => HX.out.f21 (lset h (by decide)), fun h => HX.out.f22 (lset h (by decide)), fun h => HX.out.f23 (lset h (by decide)), fun h => HX.out.f24 (lset h (by decide))⟩⟩
      · have hJ := hoj
        simp at hJ
        have l2 : listed.getD 2 false = true := hall ⟨2, .data⟩ (by subst hJ; simp) rfl
        have l1 : listed.getD 1 false = true := hall ⟨1, .chain⟩ (by subst hJ; simp) rfl
        obtain rfl := hx.f2 l2
        obtain rfl := hx.f1 l1
        have HX : Hid _ := hx
        have HI0 : Hid _ := hi0
        clear hx hall hoj hJ hi hi0
        simp only [List.setIfInBounds_toArray, List.set_cons_succ, List.set_cons_zero]
        refine wpOp_step (o := _) rfl fun K' hK => ?_
        rw [if_pos (by kernel_rfl)]
        have HK9 : Hid _ := hK
        clear hK
        go_wp2_with fail
        refine (HVb.out _ HX.out.bel).mono ?_
        rintro e w1 ⟨rfl, hb⟩
        have HBX : Hid _ := hb
        clear hb
        go_wp2_with fail
        exact HK9.out _ _ ⟨x6, x30, .bool vb, (.agg #[.int .i64 a.f0, .int .i64 a.f1, .int .i64 a.f2.f0, .int .i64 a.f2.f1, .string a.f2.f2, .int .i64 a.f3, .slice A a.f4.length ca]), .bool vb, x34, x35, x36, x37, x38, x39, x40, x41, x42, x43, x44, x45, x46, x47, x48, x49, x50, x51, x52, x53, by simp only [Act.put, List.setIfInBounds_toArray, List.set_cons_succ, List.set_cons_zero], ⟨bt HX.out.bel HBX.out, fun h => HX.out.f0 (lset h (by decide)), fun h => HX.out.f1 (lset h (by decide)), fun h => HX.out.f2 (lset h (by decide)), fun _ => rfl, fun h => HX.out.f4 (lset h (by decide)), fun h => HX.out.f5 (lset h (by decide)), fun h => HX.out.f6 (lset h (by decide)), fun h => HX.out.f7 (lset h (by decide)), fun h => HX.out.f8 (lset h (by decide)), fun h => HX.out.f9 (lset h (by decide)), fun h => HX.out.f10 (lset h (by decide)), fun h => HX.out.f11 (lset h (by decide)), fun h => HX.out.f12 (lset h (by decide)), fun h => HX.out.f13 (lset h (by decide)), fun h => HX.out.f14 (lset h (by decide)), fun h => HX.out.f15 (lset h (by decide)), fun h => HX.out.f16 (lset h (by decide)), fun h => HX.out.f17 (lset h (by decide)), fun h => HX.out.f18 (lset h (by decide)), fun h => HX.out.f19 (lset h (by decide)), fun h => HX.out.f20 (lset h (by decide)), fun h => HX.out.f21 (lset h (by decide)), fun h => HX.out.f22 (lset h (by decide)), fun h => HX.out.f23 (lset h (by decide)), fun h => HX.out.f24 (lset h (by decide))⟩⟩
      · have hJ := hoj
        simp at hJ
        have l1 : listed.getD 1 false = true := hall ⟨1, .data⟩ (by subst hJ; simp) rfl
        have l3 : listed.getD 3 false = true := hall ⟨3, .data⟩ (by subst hJ; simp) rfl
        obtain rfl := hx.f1 l1
        obtain rfl := hx.f3 l3
        have HX : Hid _ := hx
        have HI0 : Hid _ := hi0
        clear hx hall hoj hJ hi hi0
        simp only [List.setIfInBounds_toArray, List.set_cons_succ, List.set_cons_zero]
        refine wpOp_step (o := _) rfl fun K' hK => ?_
        rw [if_pos (by kernel_rfl)]
        have HK9 : Hid _ := hK
        clear hK
        go_wp2_with fail
        exact HK9.out _ _ ⟨x6, x30, .bool vb, x32, .bool vb, .bool true, x35, x36, x37, x38, x39, x40, x41, x42, x43, x44, x45, x46, x47, x48, x49, x50, x51, x52, x53, by simp only [Act.put, List.setIfInBounds_toArray, List.set_cons_succ, List.set_cons_zero], ⟨HX.out.bel, fun h => HX.out.f0 (lset h (by decide)), fun h => HX.out.f1 (lset h (by decide)), fun h => HX.out.f2 (lset h (by decide)), fun h => HX.out.f3 (lset h (by decide)), fun _ => rfl, fun h => HX.out.f5 (lset h (by decide)), fun h => HX.out.f6 (lset h (by decide)), fun h => HX.out.f7 (lset h (by decide)), fun h => HX.out.f8 (lset h (by decide)), fun h => HX.out.f9 (lset h (by decide)), fun h => HX.out.f10 (lset h (by decide)), fun h => HX.out.f11 (lset h (by decide)), fun h => HX.out.f12 (lset h (by decide)), fun h => HX.out.f13 (lset h (by decide)), fun h => HX.out.f14 (lset h (by decide)), fun h => HX.out.f15 (lset h (by decide)), fun h => HX.out.f16 (lset h (by decide)), fun h => HX.out.f17 (lset h (by decide)), fun h => HX.out.f18 (lset h (by decide)), fun h => HX.out.f19 (lset h (by decide)), fun h => HX.out.f20 (lset h (by decide)), fun h => HX.out.f21 (lset h (by decide)), fun h => HX.out.f22 (lset h (by decide)), fun h => HX.out.f23 (lset h (by decide)), fun h => HX.out.f24 (lset h (by decide))⟩⟩
      · have hJ := hoj
        simp at hJ
        have l4 : listed.getD 4 false = true := hall ⟨4, .data⟩ (by subst hJ; simp) rfl
        obtain rfl := hx.f4 l4
        have HX : Hid _ := hx
        have HI0 : Hid _ := hi0
        clear hx hall hoj hJ hi hi0
        simp only [List.setIfInBounds_toArray, List.set_cons_succ, List.set_cons_zero]
        refine wpOp_step (o := _) rfl fun K' hK => ?_
        rw [if_pos (by kernel_rfl)]
        have HK9 : Hid _ := hK
        clear hK
        go_wp2_with fail
        exact HK9.out _ _ ⟨x6, x30, x31, x32, x33, .bool true, .bool true, x36, x37, x38, x39, x40, x41, x42, x43, x44, x45, x46, x47, x48, x49, x50, x51, x52, x53, by simp only [Act.put, List.setIfInBounds_toArray, List.set_cons_succ, List.set_cons_zero], ⟨HX.out.bel, fun h => HX.out.f0 (lset h (by decide)), fun h => HX.out.f1 (lset h (by decide)), fun h => HX.out.f2 (lset h (by decide)), fun h => HX.out.f3 (lset h (by decide)), fun h => HX.out.f4 (lset h (by decide)), fun _ => rfl, fun h => HX.out.f6 (lset h (by decide)), fun h => HX.out.f7 (lset h (by decide)), fun h => HX.out.f8 (lset h (by decide)), fun h => HX.out.f9 (lset h (by decide)), fun h => HX.out.f10 (lset h (by decide)), fun h => HX.out.f11 (lset h (by decide)), fun h => HX.out.f12 (lset h (by decide)), fun h => HX.out.f13 (lset h (by decide)), fun h => HX.out.f14 (lset h (by decide)), fun h => HX.out.f15 (lset h (by decide)), fun h => HX.out.f16 (lset h (by decide)), fun h => HX.out.f17 (lset h (by decide)), fun h => HX.out.f18 (lset h (by decide)), fun h => HX.out.f19 (lset h (by decide)), fun h => HX.out.f20 (lset h (by decide)), fun h => HX.out.f21 (lset h (by decide)), fun h => HX.out.f22 (lset h (by decide)), fun h => HX.out.f23 (lset h (by decide)), fun h => HX.out.f24 (lset h (by decide))⟩⟩
      · have hJ := hoj
        simp at hJ
        have l5 : listed.getD 5 false = true := hall ⟨5, .guard⟩ (by subst hJ; simp) rfl
        obtain rfl := hx.f5 l5
        have HX : Hid _ := hx
        have HI0 : Hid _ := hi0
        clear hx hall hoj hJ hi hi0
        simp only [List.setIfInBounds_toArray, List.set_cons_succ, List.set_cons_zero]
        refine wpOp_step (o := _) rfl fun K' hK => ?_
        rw [if_pos (by kernel_rfl)]
        have HK9 : Hid _ := hK
        clear hK
        go_wp2_with fail
        exact HK9.out _ _ ⟨x6, x30, x31, x32, x33, x34, .bool true, .int .i64 t1, x37, x38, x39, x40, x41, x42, x43, x44, x45, x46, x47, x48, x49, x50, x51, x52, x53, by simp only [Act.put, List.setIfInBounds_toArray, List.set_cons_succ, List.set_cons_zero], ⟨HX.out.bel, fun h => HX.out.f0 (lset h (by decide)), fun h => HX.out.f1 (lset h (by decide)), fun h => HX.out.f2 (lset h (by decide)), fun h => HX.out.f3 (lset h (by decide)), fun h => HX.out.f4 (lset h (by decide)), fun h => HX.out.f5 (lset h (by decide)), fun _ => rfl, fun h => HX.out.f7 (lset h (by decide)), fun h => HX.out.f8 (lset h (by decide)), fun h => HX.out.f9 (lset h (by decide)), fun h => HX.out.f10 (lset h (by decide)), fun h => HX.out.f11 (lset h (by decide)), fun h => HX.out.f12 (lset h (by decide)), fun h => HX.out.f13 (lset h (by decide)), fun h => HX.out.f14 (lset h (by decide)), fun h => HX.out.f15 (lset h (by decide)), fun h => HX.out.f16 (lset h (by decide)), fun h => HX.out.f17 (lset h (by decide)), fun h => HX.out.f18 (lset h (by decide)), fun h => HX.out.f19 (lset h (by decide)), fun h => HX.out.f20 (lset h (by decide)), fun h => HX.out.f21 (lset h (by decide)), fun h => HX.out.f22 (lset h (by decide)), fun h => HX.out.f23 (lset h (by decide)), fun h => HX.out.f24 (lset h (by decide))⟩⟩
      · have hJ := hoj
        simp at hJ
        have l5 : listed.getD 5 false = true := hall ⟨5, .guard⟩ (by subst hJ; simp) rfl
        obtain rfl := hx.f5 l5
        have HX : Hid _ := hx
        have HI0 : Hid _ := hi0
        clear hx hall hoj hJ hi hi0
        simp only [List.setIfInBounds_toArray, List.set_cons_succ, List.set_cons_zero]
        refine wpOp_step (o := _) rfl fun K' hK => ?_
        rw [if_pos (by kernel_rfl)]
        have HK9 : Hid _ := hK
        clear hK
        go_wp2_with fail
        exact HK9.out _ _ ⟨x6, x30, x31, x32, x33, x34, .bool true, x36, .int .i64 t1, x38, x39, x40, x41, x42, x43, x44, x45, x46, x47, x48, x49, x50, x51, x52, x53, by simp only [Act.put, List.setIfInBounds_toArray, List.set_cons_succ, List.set_cons_zero], ⟨HX.out.bel, fun h => HX.out.f0 (lset h (by decide)), fun h => HX.out.f1 (lset h (by decide)), fun h => HX.out.f2 (lset h (by decide)), fun h => HX.out.f3 (lset h (by decide)), fun h => HX.out.f4 (lset h (by decide)), fun h => HX.out.f5 (lset h (by decide)), fun h => HX.out.f6 (lset h (by decide)), fun _ => rfl, fun h => HX.out.f8 (lset h (by decide)), fun h => HX.out.f9 (lset h (by decide)), fun h => HX.out.f10 (lset h (by decide)), fun h => HX.out.f11 (lset h (by decide)), fun h => HX.out.f12 (lset h (by decide)), fun h => HX.out.f13 (lset h (by decide)), fun h => HX.out.f14 (lset h (by decide)), fun h => HX.out.f15 (lset h (by decide)), fun h => HX.out.f16 (lset h (by decide)), fun h => HX.out.f17 (lset h (by decide)), fun h => HX.out.f18 (lset h (by decide)), fun h => HX.out.f19 (lset h (by decide)), fun h => HX.out.f20 (lset h (by decide)), fun h => HX.out.f21 (lset h (by decide)), fun h => HX.out.f22 (lset h (by decide)), fun h => HX.out.f23 (lset h (by decide)), fun h => HX.out.f24 (lset h (by decide))⟩⟩
      · have hJ := hoj
        simp at hJ
        have l6 : listed.getD 6 false = true := hall ⟨6, .data⟩ (by subst hJ; simp) rfl
        have l7 : listed.getD 7 false = true := hall ⟨7, .data⟩ (by subst hJ; simp) rfl
        have l5 : listed.getD 5 false = true := hall ⟨5, .guard⟩ (by subst hJ; simp) rfl
        obtain rfl := hx.f6 l6
        obtain rfl := hx.f7 l7
        obtain rfl := hx.f5 l5
        have HX : Hid _ := hx
        have HI0 : Hid _ := hi0
        clear hx hall hoj hJ hi hi0
        simp only [List.setIfInBounds_toArray, List.set_cons_succ, List.set_cons_zero]
        refine wpOp_step (o := _) rfl fun K' hK => ?_
        rw [if_pos (by kernel_rfl)]
        have HK9 : Hid _ := hK
        clear hK
        go_wp2_with fail
        exact HK9.out _ _ ⟨x6, x30, x31, x32, x33, x34, .bool true, .int .i64 t1, .int .i64 t1, .bool true, x39, x40, x41, x42, x43, x44, x45, x46, x47, x48, x49, x50, x51, x52, x53, by simp only [Act.put, List.setIfInBounds_toArray, List.set_cons_succ, List.set_cons_zero], ⟨HX.out.bel, fun h => HX.out.f0 (lset h (by decide)), fun h => HX.out.f1 (lset h (by decide)), fun h => HX.out.f2 (lset h (by decide)), fun h => HX.out.f3 (lset h (by decide)), fun h => HX.out.f4 (lset h (by decide)), fun h => HX.out.f5 (lset h (by decide)), fun h => HX.out.f6 (lset h (by decide)), fun h => HX.out.f7 (lset h (by decide)), fun _ => rfl, fun h => HX.out.f9 (lset h (by decide)), fun h => HX.out.f10 (lset h (by decide)), fun h => HX.out.f11 (lset h (by decide)), fun h => HX.out.f12 (lset h (by decide)), fun h => HX.out.f13 (lset h (by decide)), fun h => HX.out.f14 (lset h (by decide)), fun h => HX.out.f15 (lset h (by decide)), fun h => HX.out.f16 (lset h (by decide)), fun h => HX.out.f17 (lset h (by decide)), fun h => HX.out.f18 (lset h (by decide)), fun h => HX.out.f19 (lset h (by decide)), fun h => HX.out.f20 (lset h (by decide)), fun h => HX.out.f21 (lset h (by decide)), fun h => HX.out.f22 (lset h (by decide)), fun h => HX.out.f23 (lset h (by decide)), fun h => HX.out.f24 (lset h (by decide))⟩⟩
      · have hJ := hoj
        simp at hJ
        have l5 : listed.getD 5 false = true := hall ⟨5, .data⟩ (by subst hJ; simp) rfl
        have l8 : listed.getD 8 false = true := hall ⟨8, .data⟩ (by subst hJ; simp) rfl
        obtain rfl := hx.f5 l5
        obtain rfl := hx.f8 l8
        have HX : Hid _ := hx
        have HI0 : Hid _ := hi0
        clear hx hall hoj hJ hi hi0
        simp only [List.setIfInBounds_toArray, List.set_cons_succ, List.set_cons_zero]
        refine wpOp_step (o := _) rfl fun K' hK => ?_
        rw [if_pos (by kernel_rfl)]
        have HK9 : Hid _ := hK
        clear hK
        go_wp2_with fail
        exact HK9.out _ _ ⟨x6, x30, x31, x32, x33, x34, .bool true, x36, x37, .bool true, .bool true, x40, x41, x42, x43, x44, x45, x46, x47, x48, x49, x50, x51, x52, x53, by simp only [Act.put, List.setIfInBounds_toArray, List.set_cons_succ, List.set_cons_zero], ⟨HX.out.bel, fun h => HX.out.f0 (lset h (by decide)), fun h => HX.out.f1 (lset h (by decide)), fun h => HX.out.f2 (lset h (by decide)), fun h => HX.out.f3 (lset h (by decide)), fun h => HX.out.f4 (lset h (by decide)), fun h => HX.out.f5 (lset h (by decide)), fun h => HX.out.f6 (lset h (by decide)), fun h => HX.out.f7 (lset h (by decide)), fun h => HX.out.f8 (lset h (by decide)), fun _ => rfl, fun h => HX.out.f10 (lset h (by decide)), fun h => HX.out.f11 (lset h (by decide)), fun h => HX.out.f12 (lset h (by decide)), fun h => HX.out.f13 (lset h (by decide)), fun h => HX.out.f14 (lset h (by decide)), fun h => HX.out.f15 (lset h (by decide)), fun h => HX.out.f16 (lset h (by decide)), fun h => HX.out.f17 (lset h (by decide)), fun h => HX.out.f18 (lset h (by decide)), fun h => HX.out.f19 (lset h (by decide)), fun h => HX.out.f20 (lset h (by decide)), fun h => HX.out.f21 (lset h (by decide)), fun h => HX.out.f22 (lset h (by decide)), fun h => HX.out.f23 (lset h (by decide)), fun h => HX.out.f24 (lset h (by decide))⟩⟩
      · have hJ := hoj
        simp at hJ
        have l9 : listed.getD 9 false = true := hall ⟨9, .data⟩ (by subst hJ; simp) rfl
        obtain rfl := hx.f9 l9
        have HX : Hid _ := hx
        have HI0 : Hid _ := hi0
        clear hx hall hoj hJ hi hi0
        simp only [List.setIfInBounds_toArray, List.set_cons_succ, List.set_cons_zero]
        refine wpOp_step (o := _) rfl fun K' hK => ?_
        rw [if_pos (by kernel_rfl)]
        have HK9 : Hid _ := hK
        clear hK
        go_wp2_with fail
        exact HK9.out _ _ ⟨x6, x30, x31, x32, x33, x34, x35, x36, x37, x38, .bool true, .bool true, x41, x42, x43, x44, x45, x46, x47, x48, x49, x50, x51, x52, x53, by simp only [Act.put, List.setIfInBounds_toArray, List.set_cons_succ, List.set_cons_zero], ⟨HX.out.bel, fun h => HX.out.f0 (lset h (by decide)), fun h => HX.out.f1 (lset h (by decide)), fun h => HX.out.f2 (lset h (by decide)), fun h => HX.out.f3 (lset h (by decide)), fun h => HX.out.f4 (lset h (by decide)), fun h => HX.out.f5 (lset h (by decide)), fun h => HX.out.f6 (lset h (by decide)), fun h => HX.out.f7 (lset h (by decide)), fun h => HX.out.f8 (lset h (by decide)), fun h => HX.out.f9 (lset h (by decide)), fun _ => rfl, fun h => HX.out.f11 (lset h (by decide)), fun h => HX.out.f12 (lset h (by decide)), fun h => HX.out.f13 (lset h (by decide)), fun h => HX.out.f14 (lset h (by decide)), fun h => HX.out.f15 (lset h (by decide)), fun h => HX.out.f16 (lset h (by decide)), fun h => HX.out.f17 (lset h (by decide)), fun h => HX.out.f18 (lset h (by decide)), fun h => HX.out.f19 (lset h (by decide)), fun h => HX.out.f20 (lset h (by decide)), fun h => HX.out.f21 (lset h (by decide)), fun h => HX.out.f22 (lset h (by decide)), fun h => HX.out.f23 (lset h (by decide)), fun h => HX.out.f24 (lset h (by decide))⟩⟩
      · have hJ := hoj
        simp at hJ
        have l10 : listed.getD 10 false = true := hall ⟨10, .guard⟩ (by subst hJ; simp) rfl
        obtain rfl := hx.f10 l10
        have HX : Hid _ := hx
        have HI0 : Hid _ := hi0
        clear hx hall hoj hJ hi hi0
        simp only [List.setIfInBounds_toArray, List.set_cons_succ, List.set_cons_zero]
        refine wpOp_step (o := _) rfl fun K' hK => ?_
        rw [if_pos (by kernel_rfl)]
        have HK9 : Hid _ := hK
        clear hK
        go_wp2_with fail
        exact HK9.out _ _ ⟨x6, x30, x31, x32, x33, x34, x35, x36, x37, x38, x39, .bool true, .int .i64 t2, x42, x43, x44, x45, x46, x47, x48, x49, x50, x51, x52, x53, by simp only [Act.put, List.setIfInBounds_toArray, List.set_cons_succ, List.set_cons_zero], ⟨HX.out.bel, fun h => HX.out.f0 (lset h (by decide)), fun h => HX.out.f1 (lset h (by decide)), fun h => HX.out.f2 (lset h (by decide)), fun h => HX.out.f3 (lset h (by decide)), fun h => HX.out.f4 (lset h (by decide)), fun h => HX.out.f5 (lset h (by decide)), fun h => HX.out.f6 (lset h (by decide)), fun h => HX.out.f7 (lset h (by decide)), fun h => HX.out.f8 (lset h (by decide)), fun h => HX.out.f9 (lset h (by decide)), fun h => HX.out.f10 (lset h (by decide)), fun _ => rfl, fun h => HX.out.f12 (lset h (by decide)), fun h => HX.out.f13 (lset h (by decide)), fun h => HX.out.f14 (lset h (by decide)), fun h => HX.out.f15 (lset h (by decide)), fun h => HX.out.f16 (lset h (by decide)), fun h => HX.out.f17 (lset h (by decide)), fun h => HX.out.f18 (lset h (by decide)), fun h => HX.out.f19 (lset h (by decide)), fun h => HX.out.f20 (lset h (by decide)), fun h => HX.out.f21 (lset h (by decide)), fun h => HX.out.f22 (lset h (by decide)), fun h => HX.out.f23 (lset h (by decide)), fun h => HX.out.f24 (lset h (by decide))⟩⟩
      · have hJ := hoj
        simp at hJ
        have l10 : listed.getD 10 false = true := hall ⟨10, .guard⟩ (by subst hJ; simp) rfl
        obtain rfl := hx.f10 l10
        have HX : Hid _ := hx
        have HI0 : Hid _ := hi0
        clear hx hall hoj hJ hi hi0
        simp only [List.setIfInBounds_toArray, List.set_cons_succ, List.set_cons_zero]
        refine wpOp_step (o := _) rfl fun K' hK => ?_
        rw [if_pos (by kernel_rfl)]
        have HK9 : Hid _ := hK
        clear hK
        go_wp2_with fail
        exact HK9.out _ _ ⟨x6, x30, x31, x32, x33, x34, x35, x36, x37, x38, x39, .bool true, x41, .int .i64 t2, x43, x44, x45, x46, x47, x48, x49, x50, x51, x52, x53, by simp only [Act.put, List.setIfInBounds_toArray, List.set_cons_succ, List.set_cons_zero], ⟨HX.out.bel, fun h => HX.out.f0 (lset h (by decide)), fun h => HX.out.f1 (lset h (by decide)), fun h => HX.out.f2 (lset h (by decide)), fun h => HX.out.f3 (lset h (by decide)), fun h => HX.out.f4 (lset h (by decide)), fun h => HX.out.f5 (lset h (by decide)), fun h => HX.out.f6 (lset h (by decide)), fun h => HX.out.f7 (lset h (by decide)), fun h => HX.out.f8 (lset h (by decide)), fun h => HX.out.f9 (lset h (by decide)), fun h => HX.out.f10 (lset h (by decide)), fun h => HX.out.f11 (lset h (by decide)), fun _ => rfl, fun h => HX.out.f13 (lset h (by decide)), fun h => HX.out.f14 (lset h (by decide)), fun h => HX.out.f15 (lset h (by decide)), fun h => HX.out.f16 (lset h (by decide)), fun h => HX.out.f17 (lset h (by decide)), fun h => HX.out.f18 (lset h (by decide)), fun h => HX.out.f19 (lset h (by decide)), fun h => HX.out.f20 (lset h (by decide)), fun h => HX.out.f21 (lset h (by decide)), fun h => HX.out.f22 (lset h (by decide)), fun h => HX.out.f23 (lset h (by decide)), fun h => HX.out.f24 (lset h (by decide))⟩⟩
      · have hJ := hoj
        simp at hJ
        have l11 : listed.getD 11 false = true := hall ⟨11, .data⟩ (by subst hJ; simp) rfl
        have l12 : listed.getD 12 false = true := hall ⟨12, .data⟩ (by subst hJ; simp) rfl
        have l10 : listed.getD 10 false = true := hall ⟨10, .guard⟩ (by subst hJ; simp) rfl
        obtain rfl := hx.f11 l11
        obtain rfl := hx.f12 l12
        obtain rfl := hx.f10 l10
        have HX : Hid _ := hx
        have HI0 : Hid _ := hi0
        clear hx hall hoj hJ hi hi0
        simp only [List.setIfInBounds_toArray, List.set_cons_succ, List.set_cons_zero]
        refine wpOp_step (o := _) rfl fun K' hK => ?_
        rw [if_pos (by kernel_rfl)]
        have HK9 : Hid _ := hK
        clear hK
        go_wp2_with fail
        exact HK9.out _ _ ⟨x6, x30, x31, x32, x33, x34, x35, x36, x37, x38, x39, .bool true, .int .i64 t2, .int .i64 t2, .bool true, x44, x45, x46, x47, x48, x49, x50, x51, x52, x53, by simp only [Act.put, List.setIfInBounds_toArray, List.set_cons_succ, List.set_cons_zero], ⟨HX.out.bel, fun h => HX.out.f0 (lset h (by decide)), fun h => HX.out.f1 (lset h (by decide)), fun h => HX.out.f2 (lset h (by decide)), fun h => HX.out.f3 (lset h (by decide)), fun h => HX.out.f4 (lset h (by decide)), fun h => HX.out.f5 (lset h (by decide)), fun h => HX.out.f6 (lset h (by decide)), fun h => HX.out.f7 (lset h (by decide)), fun h => HX.out.f8 (lset h (by decide)), fun h => HX.out.f9 (lset h (by decide)), fun h => HX.out.f10 (lset h (by decide)), fun h => HX.out.f11 (lset h (by decide)), fun h => HX.out.f12 (lset h (by decide)), fun _ => rfl, fun h => HX.out.f14 (lset h (by decide)), fun h => HX.out.f15 (lset h (by decide)), fun h => HX.out.f16 (lset h (by decide)), fun h => HX.out.f17 (lset h (by decide)), fun h => HX.out.f18 (lset h (by decide)), fun h => HX.out.f19 (lset h (by decide)), fun h => HX.out.f20 (lset h (by decide)), fun h => HX.out.f21 (lset h (by decide)), fun h => HX.out.f22 (lset h (by decide)), fun h => HX.out.f23 (lset h (by decide)), fun h => HX.out.f24 (lset h (by decide))⟩⟩
      · have hJ := hoj
        simp at hJ
        have l10 : listed.getD 10 false = true := hall ⟨10, .data⟩ (by subst hJ; simp) rfl
        have l13 : listed.getD 13 false = true := hall ⟨13, .data⟩ (by subst hJ; simp) rfl
        obtain rfl := hx.f10 l10
        obtain rfl := hx.f13 l13
        have HX : Hid _ := hx
        have HI0 : Hid _ := hi0
        clear hx hall hoj hJ hi hi0
        simp only [List.setIfInBounds_toArray, List.set_cons_succ, List.set_cons_zero]
        refine wpOp_step (o := _) rfl fun K' hK => ?_
        rw [if_pos (by kernel_rfl)]
        have HK9 : Hid _ := hK
        clear hK
        go_wp2_with fail
        exact HK9.out _ _ ⟨x6, x30, x31, x32, x33, x34, x35, x36, x37, x38, x39, .bool true, x41, x42, .bool true, .bool true, x45, x46, x47, x48, x49, x50, x51, x52, x53, by simp only [Act.put, List.setIfInBounds_toArray, List.set_cons_succ, List.set_cons_zero], ⟨HX.out.bel, fun h => HX.out.f0 (lset h (by decide)), fun h => HX.out.f1 (lset h (by decide)), fun h => HX.out.f2 (lset h (by decide)), fun h => HX.out.f3 (lset h (by decide)), fun h => HX.out.f4 (lset h (by decide)), fun h => HX.out.f5 (lset h (by decide)), fun h => HX.out.f6 (lset h (by decide)), fun h => HX.out.f7 (lset h (by decide)), fun h => HX.out.f8 (lset h (by decide)), fun h => HX.out.f9 (lset h (by decide)), fun h => HX.out.f10 (lset h (by decide)), fun h => HX.out.f11 (lset h (by decide)), fun h => HX.out.f12 (lset h (by decide)), fun h => HX.out.f13 (lset h (by decide)), fun _ => rfl, fun h => HX.out.f15 (lset h (by decide)), fun h => HX.out.f16 (lset h (by decide)), fun h => HX.out.f17 (lset h (by decide)), fun h => HX.out.f18 (lset h (by decide)), fun h => HX.out.f19 (lset h (by decide)), fun h => HX.out.f20 (lset h (by decide)), fun h => HX.out.f21 (lset h (by decide)), fun h => HX.out.f22 (lset h (by decide)), fun h => HX.out.f23 (lset h (by decide)), fun h => HX.out.f24 (lset h (by decide))⟩⟩
      · have hJ := hoj
        simp at hJ
        have l14 : listed.getD 14 false = true := hall ⟨14, .data⟩ (by subst hJ; simp) rfl
        obtain rfl := hx.f14 l14
        have HX : Hid _ := hx
        have HI0 : Hid _ := hi0
        clear hx hall hoj hJ hi hi0
        simp only [List.setIfInBounds_toArray, List.set_cons_succ, List.set_cons_zero]
        refine wpOp_step (o := _) rfl fun K' hK => ?_
        rw [if_pos (by kernel_rfl)]
        have HK9 : Hid _ := hK
        clear hK
        go_wp2_with fail
        exact HK9.out _ _ ⟨x6, x30, x31, x32, x33, x34, x35, x36, x37, x38, x39, x40, x41, x42, x43, .bool true, .bool true, x46, x47, x48, x49, x50, x51, x52, x53, by simp only [Act.put, List.setIfInBounds_toArray, List.set_cons_succ, List.set_cons_zero], ⟨HX.out.bel, fun h => HX.out.f0 (lset h (by decide)), fun h => HX.out.f1 (lset h (by decide)), fun h => HX.out.f2 (lset h (by decide)), fun h => HX.out.f3 (lset h (by decide)), fun h => HX.out.f4 (lset h (by decide)), fun h => HX.out.f5 (lset h (by decide)), fun h => HX.out.f6 (lset h (by decide)), fun h => HX.out.f7 (lset h (by decide)), fun h => HX.out.f8 (lset h (by decide)), fun h => HX.out.f9 (lset h (by decide)), fun h => HX.out.f10 (lset h (by decide)), fun h => HX.out.f11 (lset h (by decide)), fun h => HX.out.f12 (lset h (by decide)), fun h => HX.out.f13 (lset h (by decide)), fun h => HX.out.f14 (lset h (by decide)), fun _ => rfl, fun h => HX.out.f16 (lset h (by decide)), fun h => HX.out.f17 (lset h (by decide)), fun h => HX.out.f18 (lset h (by decide)), fun h => HX.out.f19 (lset h (by decide)), fun h => HX.out.f20 (lset h (by decide)), fun h => HX.out.f21 (lset h (by decide)), fun h => HX.out.f22 (lset h (by decide)), fun h => HX.out.f23 (lset h (by decide)), fun h => HX.out.f24 (lset h (by decide))⟩⟩
      · have hJ := hoj
        simp at hJ
        have l15 : listed.getD 15 false = true := hall ⟨15, .guard⟩ (by subst hJ; simp) rfl
        obtain rfl := hx.f15 l15
        have hz := bk hx.bel HKa.out
        have zc0 := blk_cell hz 0 rfl
        have zc1 := blk_cell hz 1 rfl
        have zc2 := blk_cell hz 2 rfl
        have zc3 := blk_cell hz 3 rfl
        have zc4 := blk_cell hz 4 rfl
        have zc5 := blk_cell hz 5 rfl
        have zc6 := blk_cell hz 6 rfl
        clear hz
        have HX : Hid _ := hx
        have HI0 : Hid _ := hi0
        clear hx hall hoj hJ hi hi0
        simp only [List.setIfInBounds_toArray, List.set_cons_succ, List.set_cons_zero]
        refine wpOp_step (o := _) rfl fun K' hK => ?_
        rw [if_pos (by kernel_rfl)]
        have HK9 : Hid _ := hK
        clear hK
        go_wp2_with fail
        exact HK9.out _ _ ⟨x6, x30, x31, x32, x33, x34, x35, x36, x37, x38, x39, x40, x41, x42, x43, x44, .bool true, (.agg #[.int .i64 a.f0, .int .i64 a.f1, .int .i64 a.f2.f0, .int .i64 a.f2.f1, .string a.f2.f2, .int .i64 a.f3, .slice A a.f4.length ca]), x47, x48, x49, x50, x51, x52, x53, by simp only [Act.put, List.setIfInBounds_toArray, List.set_cons_succ, List.set_cons_zero], ⟨HX.out.bel, fun h => HX.out.f0 (lset h (by decide)), fun h => HX.out.f1 (lset h (by decide)), fun h => HX.out.f2 (lset h (by decide)), fun h => HX.out.f3 (lset h (by decide)), fun h => HX.out.f4 (lset h (by decide)), fun h => HX.out.f5 (lset h (by decide)), fun h => HX.out.f6 (lset h (by decide)), fun h => HX.out.f7 (lset h (by decide)), fun h => HX.out.f8 (lset h (by decide)), fun h => HX.out.f9 (lset h (by decide)), fun h => HX.out.f10 (lset h (by decide)), fun h => HX.out.f11 (lset h (by decide)), fun h => HX.out.f12 (lset h (by decide)), fun h => HX.out.f13 (lset h (by decide)), fun h => HX.out.f14 (lset h (by decide)), fun h => HX.out.f15 (lset h (by decide)), fun _ => rfl, fun h => HX.out.f17 (lset h (by decide)), fun h => HX.out.f18 (lset h (by decide)), fun h => HX.out.f19 (lset h (by decide)), fun h => HX.out.f20 (lset h (by decide)), fun h => HX.out.f21 (lset h (by decide)), fun h => HX.out.f22 (lset h (by decide)), fun h => HX.out.f23 (lset h (by decide)), fun h => HX.out.f24 (lset h (by decide))⟩⟩
      · have hJ := hoj
        simp at hJ
        have l15 : listed.getD 15 false = true := hall ⟨15, .guard⟩ (by subst hJ; simp) rfl
        obtain rfl := hx.f15 l15
        have hz := bk hx.bel HKb.out
        have zc0 := blk_cell hz 0 rfl
        have zc1 := blk_cell hz 1 rfl
        have zc2 := blk_cell hz 2 rfl
        have zc3 := blk_cell hz 3 rfl
        have zc4 := blk_cell hz 4 rfl
        have zc5 := blk_cell hz 5 rfl
        have zc6 := blk_cell hz 6 rfl
        clear hz
        have HX : Hid _ := hx
        have HI0 : Hid _ := hi0
        clear hx hall hoj hJ hi hi0
        simp only [List.setIfInBounds_toArray, List.set_cons_succ, List.set_cons_zero]
        refine wpOp_step (o := _) rfl fun K' hK => ?_
        rw [if_pos (by kernel_rfl)]
        have HK9 : Hid _ := hK
        clear hK
        go_wp2_with fail
        exact HK9.out _ _ ⟨x6, x30, x31, x32, x33, x34, x35, x36, x37, x38, x39, x40, x41, x42, x43, x44, .bool true, x46, (.agg #[.int .i64 b.f0, .int .i64 b.f1, .int .i64 b.f2.f0, .int .i64 b.f2.f1, .string b.f2.f2, .int .i64 b.f3, .slice B b.f4.length cb]), x48, x49, x50, x51, x52, x53, by simp only [Act.put, List.setIfInBounds_toArray, List.set_cons_succ, List.set_cons_zero], ⟨HX.out.bel, fun h => HX.out.f0 (lset h (by decide)), fun h => HX.out.f1 (lset h (by decide)), fun h => HX.out.f2 (lset h (by decide)), fun h => HX.out.f3 (lset h (by decide)), fun h => HX.out.f4 (lset h (by decide)), fun h => HX.out.f5 (lset h (by decide)), fun h => HX.out.f6 (lset h (by decide)), fun h => HX.out.f7 (lset h (by decide)), fun h => HX.out.f8 (lset h (by decide)), fun h => HX.out.f9 (lset h (by decide)), fun h => HX.out.f10 (lset h (by decide)), fun h => HX.out.f11 (lset h (by decide)), fun h => HX.out.f12 (lset h (by decide)), fun h => HX.out.f13 (lset h (by decide)), fun h => HX.out.f14 (lset h (by decide)), fun h => HX.out.f15 (lset h (by decide)), fun h => HX.out.f16 (lset h (by decide)), fun _ => rfl, fun h => HX.out.f18 (lset h (by decide)), fun h => HX.out.f19 (lset h (by decide)), fun h => HX.out.f20 (lset h (by decide)), fun h => HX.out.f21 (lset h (by decide)), fun h => HX.out.f22 (lset h (by decide)), fun h => HX.out.f23 (lset h (by decide)), fun h => HX.out.f24 (lset h (by decide))⟩⟩
      · have hJ := hoj
        simp at hJ
        have l16 : listed.getD 16 false = true := hall ⟨16, .data⟩ (by subst hJ; simp) rfl
        have l17 : listed.getD 17 false = true := hall ⟨17, .data⟩ (by subst hJ; simp) rfl
        have l15 : listed.getD 15 false = true := hall ⟨15, .chain⟩ (by subst hJ; simp) rfl
        obtain rfl := hx.f16 l16
        obtain rfl := hx.f17 l17
        obtain rfl := hx.f15 l15
        have HX : Hid _ := hx
        have HI0 : Hid _ := hi0
        clear hx hall hoj hJ hi hi0
        simp only [List.setIfInBounds_toArray, List.set_cons_succ, List.set_cons_zero]
        refine wpOp_step (o := _) rfl fun K' hK => ?_
        rw [if_pos (by kernel_rfl)]
        have HK9 : Hid _ := hK
        clear hK
        go_wp2_with fail
        refine (HQa.out _ HX.out.bel).mono ?_
        rintro e w1 ⟨rfl, hb⟩
        have HBX : Hid _ := hb
        clear hb
        go_wp2_with fail
        exact HK9.out _ _ ⟨x6, x30, x31, x32, x33, x34, x35, x36, x37, x38, x39, x40, x41, x42, x43, x44, .bool true, (.agg #[.int .i64 a.f0, .int .i64 a.f1, .int .i64 a.f2.f0, .int .i64 a.f2.f1, .string a.f2.f2, .int .i64 a.f3, .slice A a.f4.length ca]), (.agg #[.int .i64 b.f0, .int .i64 b.f1, .int .i64 b.f2.f0, .int .i64 b.f2.f1, .string b.f2.f2, .int .i64 b.f3, .slice B b.f4.length cb]), .bool eq, x49, x50, x51, x52, x53, by simp only [Act.put, List.setIfInBounds_toArray, List.set_cons_succ, List.set_cons_zero], ⟨bt HX.out.bel HBX.out, fun h => HX.out.f0 (lset h (by decide)), fun h => HX.out.f1 (lset h (by decide)), fun h => HX.out.f2 (lset h (by decide)), fun h => HX.out.f3 (lset h (by decide)), fun h => HX.out.f4 (lset h (by decide)), fun h => HX.out.f5 (lset h (by decide)), fun h => HX.out.f6 (lset h (by decide)), fun h => HX.out.f7 (lset h (by decide)), fun h => HX.out.f8 (lset h (by decide)), fun h => HX.out.f9 (lset h (by decide)), fun h => HX.out.f10 (lset h (by decide)), fun h => HX.out.f11 (lset h (by decide)), fun h => HX.out.f12 (lset h (by decide)), fun h => HX.out.f13 (lset h (by decide)), fun h => HX.out.f14 (lset h (by decide)), fun h => HX.out.f15 (lset h (by decide)), fun h => HX.out.f16 (lset h (by decide)), fun h => HX.out.f17 (lset h (by decide)), fun _ => rfl, fun h => HX.out.f19 (lset h (by decide)), fun h => HX.out.f20 (lset h (by decide)), fun h => HX.out.f21 (lset h (by decide)), fun h => HX.out.f22 (lset h (by decide)), fun h => HX.out.f23 (lset h (by decide)), fun h => HX.out.f24 (lset h (by decide))⟩⟩
      · have hJ := hoj
        simp at hJ
        have l15 : listed.getD 15 false = true := hall ⟨15, .guard⟩ (by subst hJ; simp) rfl
        obtain rfl := hx.f15 l15
        have hz := bk hx.bel HKa.out
        have zc0 := blk_cell hz 0 rfl
        have zc1 := blk_cell hz 1 rfl
        have zc2 := blk_cell hz 2 rfl
        have zc3 := blk_cell hz 3 rfl
        have zc4 := blk_cell hz 4 rfl
        have zc5 := blk_cell hz 5 rfl
        have zc6 := blk_cell hz 6 rfl
        clear hz
        have HX : Hid _ := hx
        have HI0 : Hid _ := hi0
        clear hx hall hoj hJ hi hi0
        simp only [List.setIfInBounds_toArray, List.set_cons_succ, List.set_cons_zero]
        refine wpOp_step (o := _) rfl fun K' hK => ?_
        rw [if_pos (by kernel_rfl)]
        have HK9 : Hid _ := hK
        clear hK
        go_wp2_with fail
        exact HK9.out _ _ ⟨x6, x30, x31, x32, x33, x34, x35, x36, x37, x38, x39, x40, x41, x42, x43, x44, .bool true, x46, x47, x48, (.agg #[.int .i64 a.f0, .int .i64 a.f1, .int .i64 a.f2.f0, .int .i64 a.f2.f1, .string a.f2.f2, .int .i64 a.f3, .slice A a.f4.length ca]), x50, x51, x52, x53, by simp only [Act.put, List.setIfInBounds_toArray, List.set_cons_succ, List.set_cons_zero], ⟨HX.out.bel, fun h => HX.out.f0 (lset h (by decide)), fun h => HX.out.f1 (lset h (by decide)), fun h => HX.out.f2 (lset h (by decide)), fun h => HX.out.f3 (lset h (by decide)), fun h => HX.out.f4 (lset h (by decide)), fun h => HX.out.f5 (lset h (by decide)), fun h => HX.out.f6 (lset h (by decide)), fun h => HX.out.f7 (lset h (by decide)), fun h => HX.out.f8 (lset h (by decide)), fun h => HX.out.f9 (lset h (by decide)), fun h => HX.out.f10 (lset h (by decide)), fun h => HX.out.f11 (lset h (by decide)), fun h => HX.out.f12 (lset h (by decide)), fun h => HX.out.f13 (lset h (by decide)), fun h => HX.out.f14 (lset h (by decide)), fun h => HX.out.f15 (lset h (by decide)), fun h => HX.out.f16 (lset h (by decide)), fun h => HX.out.f17 (lset h (by decide)), fun h => HX.out.f18 (lset h (by decide)), fun _ => rfl, fun h => HX.out.f20 (lset h (by decide)), fun h => HX.out.f21 (lset h (by decide)), fun h => HX.out.f22 (lset h (by decide)), fun h => HX.out.f23 (lset h (by decide)), fun h => HX.out.f24 (lset h (by decide))⟩⟩
      · have hJ := hoj
        simp at hJ
        have l15 : listed.getD 15 false = true := hall ⟨15, .guard⟩ (by subst hJ; simp) rfl
        obtain rfl := hx.f15 l15
        have hz := bk hx.bel HKb.out
        have zc0 := blk_cell hz 0 rfl
        have zc1 := blk_cell hz 1 rfl
        have zc2 := blk_cell hz 2 rfl
        have zc3 := blk_cell hz 3 rfl
        have zc4 := blk_cell hz 4 rfl
        have zc5 := blk_cell hz 5 rfl
        have zc6 := blk_cell hz 6 rfl
        clear hz
        have HX : Hid _ := hx
        have HI0 : Hid _ := hi0
        clear hx hall hoj hJ hi hi0
        simp only [List.setIfInBounds_toArray, List.set_cons_succ, List.set_cons_zero]
        refine wpOp_step (o := _) rfl fun K' hK => ?_
        rw [if_pos (by kernel_rfl)]
        have HK9 : Hid _ := hK
        clear hK
        go_wp2_with fail
        exact HK9.out _ _ ⟨x6, x30, x31, x32, x33, x34, x35, x36, x37, x38, x39, x40, x41, x42, x43, x44, .bool true, x46, x47, x48, x49, (.agg #[.int .i64 b.f0, .int .i64 b.f1, .int .i64 b.f2.f0, .int .i64 b.f2.f1, .string b.f2.f2, .int .i64 b.f3, .slice B b.f4.length cb]), x51, x52, x53, by simp only [Act.put, List.setIfInBounds_toArray, List.set_cons_succ, List.set_cons_zero], ⟨HX.out.bel, fun h => HX.out.f0 (lset h (by decide)), fun h => HX.out.f1 (lset h (by decide)), fun h => HX.out.f2 (lset h (by decide)), fun h => HX.out.f3 (lset h (by decide)), fun h => HX.out.f4 (lset h (by decide)), fun h => HX.out.f5 (lset h (by decide)), fun h => HX.out.f6 (lset h (by decide)), fun h => HX.out.f7 (lset h (by decide)), fun h => HX.out.f8 (lset h (by decide)), fun h => HX.out.f9 (lset h (by decide)), fun h => HX.out.f10 (lset h (by decide)), fun h => HX.out.f11 (lset h (by decide)), fun h => HX.out.f12 (lset h (by decide)), fun h => HX.out.f13 (lset h (by decide)), fun h => HX.out.f14 (lset h (by decide)), fun h => HX.out.f15 (lset h (by decide)), fun h => HX.out.f16 (lset h (by decide)), fun h => HX.out.f17 (lset h (by decide)), fun h => HX.out.f18 (lset h (by decide)), fun h => HX.out.f19 (lset h (by decide)), fun _ => rfl, fun h => HX.out.f21 (lset h (by decide)), fun h => HX.out.f22 (lset h (by decide)), fun h => HX.out.f23 (lset h (by decide)), fun h => HX.out.f24 (lset h (by decide))⟩⟩
      · have hJ := hoj
        simp at hJ
        have l19 : listed.getD 19 false = true := hall ⟨19, .data⟩ (by subst hJ; simp) rfl
        have l20 : listed.getD 20 false = true := hall ⟨20, .data⟩ (by subst hJ; simp) rfl
        have l18 : listed.getD 18 false = true := hall ⟨18, .chain⟩ (by subst hJ; simp) rfl
        have l15 : listed.getD 15 false = true := hall ⟨15, .guard⟩ (by subst hJ; simp) rfl
        obtain rfl := hx.f19 l19
        obtain rfl := hx.f20 l20
        obtain rfl := hx.f18 l18
        obtain rfl := hx.f15 l15
        have HX : Hid _ := hx
        have HI0 : Hid _ := hi0
        clear hx hall hoj hJ hi hi0
        simp only [List.setIfInBounds_toArray, List.set_cons_succ, List.set_cons_zero]
        refine wpOp_step (o := _) rfl fun K' hK => ?_
        rw [if_pos (by kernel_rfl)]
        have HK9 : Hid _ := hK
        clear hK
        go_wp2_with fail
        refine (HQb.out _ HX.out.bel).mono ?_
        rintro e w1 ⟨rfl, hb⟩
        have HBX : Hid _ := hb
        clear hb
        go_wp2_with fail
        exact HK9.out _ _ ⟨x6, x30, x31, x32, x33, x34, x35, x36, x37, x38, x39, x40, x41, x42, x43, x44, .bool true, x46, x47, .bool eq, (.agg #[.int .i64 a.f0, .int .i64 a.f1, .int .i64 a.f2.f0, .int .i64 a.f2.f1, .string a.f2.f2, .int .i64 a.f3, .slice A a.f4.length ca]), (.agg #[.int .i64 b.f0, .int .i64 b.f1, .int .i64 b.f2.f0, .int .i64 b.f2.f1, .string b.f2.f2, .int .i64 b.f3, .slice B b.f4.length cb]), .bool eq, x52, x53, by simp only [Act.put, List.setIfInBounds_toArray, List.set_cons_succ, List.set_cons_zero], ⟨bt HX.out.bel HBX.out, fun h => HX.out.f0 (lset h (by decide)), fun h => HX.out.f1 (lset h (by decide)), fun h => HX.out.f2 (lset h (by decide)), fun h => HX.out.f3 (lset h (by decide)), fun h => HX.out.f4 (lset h (by decide)), fun h => HX.out.f5 (lset h (by decide)), fun h => HX.out.f6 (lset h (by decide)), fun h => HX.out.f7 (lset h (by decide)), fun h => HX.out.f8 (lset h (by decide)), fun h => HX.out.f9 (lset h (by decide)), fun h => HX.out.f10 (lset h (by decide)), fun h => HX.out.f11 (lset h (by decide)), fun h => HX.out.f12 (lset h (by decide)), fun h => HX.out.f13 (lset h (by decide)), fun h => HX.out.f14 (lset h (by decide)), fun h => HX.out.f15 (lset h (by decide)), fun h => HX.out.f16 (lset h (by decide)), fun h => HX.out.f17 (lset h (by decide)), fun h => HX.out.f18 (lset h (by decide)), fun h => HX.out.f19 (lset h (by decide)), fun h => HX.out.f20 (lset h (by decide)), fun _ => rfl, fun h => HX.out.f22 (lset h (by decide)), fun h => HX.out.f23 (lset h (by decide)), fun h => HX.out.f24 (lset h (by decide))⟩⟩
      · have hJ := hoj
        simp at hJ
        have l18 : listed.getD 18 false = true := hall ⟨18, .data⟩ (by subst hJ; simp) rfl
        have l21 : listed.getD 21 false = true := hall ⟨21, .data⟩ (by subst hJ; simp) rfl
        have l15 : listed.getD 15 false = true := hall ⟨15, .guard⟩ (by subst hJ; simp) rfl
        obtain rfl := hx.f18 l18
        obtain rfl := hx.f21 l21
        obtain rfl := hx.f15 l15
        have HX : Hid _ := hx
        have HI0 : Hid _ := hi0
        clear hx hall hoj hJ hi hi0
        simp only [List.setIfInBounds_toArray, List.set_cons_succ, List.set_cons_zero]
        refine wpOp_step (o := _) rfl fun K' hK => ?_
        rw [if_pos (by kernel_rfl)]
        have HK9 : Hid _ := hK
        clear hK
        go_wp2_with fail
        exact HK9.out _ _ ⟨x6, x30, x31, x32, x33, x34, x35, x36, x37, x38, x39, x40, x41, x42, x43, x44, .bool true, x46, x47, .bool eq, x49, x50, .bool eq, .bool true, x53, by simp only [Act.put, List.setIfInBounds_toArray, List.set_cons_succ, List.set_cons_zero], ⟨HX.out.bel, fun h => HX.out.f0 (lset h (by decide)), fun h => HX.out.f1 (lset h (by decide)), fun h => HX.out.f2 (lset h (by decide)), fun h => HX.out.f3 (lset h (by decide)), fun h => HX.out.f4 (lset h (by decide)), fun h => HX.out.f5 (lset h (by decide)), fun h => HX.out.f6 (lset h (by decide)), fun h => HX.out.f7 (lset h (by decide)), fun h => HX.out.f8 (lset h (by decide)), fun h => HX.out.f9 (lset h (by decide)), fun h => HX.out.f10 (lset h (by decide)), fun h => HX.out.f11 (lset h (by decide)), fun h => HX.out.f12 (lset h (by decide)), fun h => HX.out.f13 (lset h (by decide)), fun h => HX.out.f14 (lset h (by decide)), fun h => HX.out.f15 (lset h (by decide)), fun h => HX.out.f16 (lset h (by decide)), fun h => HX.out.f17 (lset h (by decide)), fun h => HX.out.f18 (lset h (by decide)), fun h => HX.out.f19 (lset h (by decide)), fun h => HX.out.f20 (lset h (by decide)), fun h => HX.out.f21 (lset h (by decide)), fun _ => rfl, fun h => HX.out.f23 (lset h (by decide)), fun h => HX.out.f24 (lset h (by decide))⟩⟩
      · have hJ := hoj
        simp at hJ
        have l15 : listed.getD 15 false = true := hall ⟨15, .data⟩ (by subst hJ; simp) rfl
        have l22 : listed.getD 22 false = true := hall ⟨22, .data⟩ (by subst hJ; simp) rfl
        obtain rfl := hx.f15 l15
        obtain rfl := hx.f22 l22
        have HX : Hid _ := hx
        have HI0 : Hid _ := hi0
        clear hx hall hoj hJ hi hi0
        simp only [List.setIfInBounds_toArray, List.set_cons_succ, List.set_cons_zero]
        refine wpOp_step (o := _) rfl fun K' hK => ?_
        rw [if_pos (by kernel_rfl)]
        have HK9 : Hid _ := hK
        clear hK
        go_wp2_with fail
        exact HK9.out _ _ ⟨x6, x30, x31, x32, x33, x34, x35, x36, x37, x38, x39, x40, x41, x42, x43, x44, .bool true, x46, x47, x48, x49, x50, x51, .bool true, .bool true, by simp only [Act.put, List.setIfInBounds_toArray, List.set_cons_succ, List.set_cons_zero], ⟨HX.out.bel, fun h => HX.out.f0 (lset h (by decide)), fun h => HX.out.f1 (lset h (by decide)), fun h => HX.out.f2 (lset h (by decide)), fun h => HX.out.f3 (lset h (by decide)), fun h => HX.out.f4 (lset h (by decide)), fun h => HX.out.f5 (lset h (by decide)), fun h => HX.out.f6 (lset h (by decide)), fun h => HX.out.f7 (lset h (by decide)), fun h => HX.out.f8 (lset h (by decide)), fun h => HX.out.f9 (lset h (by decide)), fun h => HX.out.f10 (lset h (by decide)), fun h => HX.out.f11 (lset h (by decide)), fun h => HX.out.f12 (lset h (by decide)), fun h => HX.out.f13 (lset h (by decide)), fun h => HX.out.f14 (lset h (by decide)), fun h => HX.out.f15 (lset h (by decide)), fun h => HX.out.f16 (lset h (by decide)), fun h => HX.out.f17 (lset h (by decide)), fun h => HX.out.f18 (lset h (by decide)), fun h => HX.out.f19 (lset h (by decide)), fun h => HX.out.f20 (lset h (by decide)), fun h => HX.out.f21 (lset h (by decide)), fun h => HX.out.f22 (lset h (by decide)), fun _ => rfl, fun h => HX.out.f24 (lset h (by decide))⟩⟩
      · have hJ := hoj
        simp at hJ
        have l23 : listed.getD 23 false = true := hall ⟨23, .data⟩ (by subst hJ; simp) rfl
        obtain rfl := hx.f23 l23
        have HX : Hid _ := hx
        have HI0 : Hid _ := hi0
        clear hx hall hoj hJ hi hi0
        simp only [List.setIfInBounds_toArray, List.set_cons_succ, List.set_cons_zero]
        refine wpOp_step (o := _) rfl fun K' hK => ?_
        rw [if_pos (by kernel_rfl)]
        have HK9 : Hid _ := hK
        clear hK
        go_wp2_with fail
        exact HK9.out _ _ ⟨.bool true, x30, x31, x32, x33, x34, x35, x36, x37, x38, x39, x40, x41, x42, x43, x44, x45, x46, x47, x48, x49, x50, x51, x52, .bool true, by simp only [Act.put, List.setIfInBounds_toArray, List.set_cons_succ, List.set_cons_zero], ⟨HX.out.bel, fun h => HX.out.f0 (lset h (by decide)), fun h => HX.out.f1 (lset h (by decide)), fun h => HX.out.f2 (lset h (by decide)), fun h => HX.out.f3 (lset h (by decide)), fun h => HX.out.f4 (lset h (by decide)), fun h => HX.out.f5 (lset h (by decide)), fun h => HX.out.f6 (lset h (by decide)), fun h => HX.out.f7 (lset h (by decide)), fun h => HX.out.f8 (lset h (by decide)), fun h => HX.out.f9 (lset h (by decide)), fun h => HX.out.f10 (lset h (by decide)), fun h => HX.out.f11 (lset h (by decide)), fun h => HX.out.f12 (lset h (by decide)), fun h => HX.out.f13 (lset h (by decide)), fun h => HX.out.f14 (lset h (by decide)), fun h => HX.out.f15 (lset h (by decide)), fun h => HX.out.f16 (lset h (by decide)), fun h => HX.out.f17 (lset h (by decide)), fun h => HX.out.f18 (lset h (by decide)), fun h => HX.out.f19 (lset h (by decide)), fun h => HX.out.f20 (lset h (by decide)), fun h => HX.out.f21 (lset h (by decide)), fun h => HX.out.f22 (lset h (by decide)), fun h => HX.out.f23 (lset h (by decide)), fun _ => rfl⟩⟩
    · rintro a' WW ⟨x6, x30, x31, x32, x33, x34, x35, x36, x37, x38, x39, x40, x41, x42, x43, x44, x45, x46, x47, x48, x49, x50, x51, x52, x53, rfl, hx⟩
      have hlast := hx.f24 (by simp)
      have HB9 : Hid _ := hx.bel
      clear hx
      subst hlast
      simp only [List.setIfInBounds_toArray, List.set_cons_succ, List.set_cons_zero]
      go_wp2_with fail
      go_ret
      exact ⟨rfl, bt HBX0.out HB9.out⟩
end Go.Proofs.YtemedepjmnncbaaGreatDoor
