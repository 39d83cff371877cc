import Derived.Test.YtemedepjmnncbaaGreatDoorA3
namespace Go.Proofs.YtemedepjmnncbaaGreatDoor
set_option linter.unusedVariables false
set_option linter.unusedSimpArgs false
open Go.RowKit Pu
/-- The order of texts. -/
def ltB (a b : ByteArray) : Bool := Op.bytesLess a.toList b.toList
theorem wrap_w64 (x : Int) : wrap64 x = w64 x := by unfold wrap64 w64; omega
set_option maxHeartbeats 400000 in
theorem op1_c (a b : Va) (w : World) : Calls Tryz.prog 104 #[vaV a, vaV b] w fun e w' => e = .returned (vaV (app ltB 0 a b)) ∧ Below w.heap.size w w' := by
  go_enter Tryz.func104, Tryz.ntmps104
  go_wp2
  refine bodyPost_ret (v := vaV (app ltB 0 a b)) (by simp [results, Tryz.results104, go_sem, app, wrap_w64]) rfl ⟨rfl, ?_⟩
  repeat (first | exact Below.refl _ _ | apply ba)
set_option maxHeartbeats 400000 in
theorem op2_c (a b : Va) (w : World) : Calls Tryz.prog 105 #[vaV a, vaV b] w fun e w' => e = .returned (vaV (app ltB 1 a b)) ∧ Below w.heap.size w w' := by
  go_enter Tryz.func105, Tryz.ntmps105
  go_wp2
  refine bodyPost_ret (v := vaV (app ltB 1 a b)) (by simp [results, Tryz.results105, go_sem, app, wrap_w64]) rfl ⟨rfl, ?_⟩
  repeat (first | exact Below.refl _ _ | apply ba)
set_option maxHeartbeats 400000 in
theorem op3_c (a b : Va) (w : World) : Calls Tryz.prog 106 #[vaV a, vaV b] w fun e w' => e = .returned (vaV (app ltB 2 a b)) ∧ Below w.heap.size w w' := by
  go_enter Tryz.func106, Tryz.ntmps106
  go_wp2
  refine bodyPost_ret (v := vaV (app ltB 2 a b)) (by simp [results, Tryz.results106, go_sem, app, wrap_w64]) rfl ⟨rfl, ?_⟩
  repeat (first | exact Below.refl _ _ | apply ba)
set_option maxHeartbeats 400000 in
theorem op4_c (a b : Va) (w : World) : Calls Tryz.prog 107 #[vaV a, vaV b] w fun e w' => e = .returned (vaV (app ltB 3 a b)) ∧ Below w.heap.size w w' := by
  go_enter Tryz.func107, Tryz.ntmps107
  go_wp2
  refine bodyPost_ret (v := vaV (app ltB 3 a b)) (by simp [results, Tryz.results107, go_sem, app, wrap_w64]) rfl ⟨rfl, ?_⟩
  repeat (first | exact Below.refl _ _ | apply ba)
theorem cut_small {s : ByteArray} (h : s.size ≤ 255) : cut255 s = s := by
  unfold cut255; rw [Nat.min_eq_left h]; exact ByteArray.extract_zero_size
set_option maxHeartbeats 400000 in
theorem op5_c (a b : Va) (w : World) (ha : a.f2.size ≤ 255) (hb : b.f2.size ≤ 255) : Calls Tryz.prog 108 #[vaV a, vaV b] w fun e w' => e = .returned (vaV (app ltB 4 a b)) ∧ Below w.heap.size w w' := by
  have e1 : 255 ≤ a.f2.size + b.f2.size → (a.f2 ++ b.f2).extract 0 255 = cut255 (a.f2 ++ b.f2) := fun h => by unfold cut255; rw [Nat.min_eq_right (by simp; omega)]
  have e2 : a.f2.size + b.f2.size ≤ 255 → (a.f2 ++ b.f2).extract 0 (a.f2.size + b.f2.size) = cut255 (a.f2 ++ b.f2) := fun h => by
    rw [cut_small (by simp; omega), show a.f2.size + b.f2.size = (a.f2 ++ b.f2).size by simp]
    exact ByteArray.extract_zero_size
  have E1 : Hid _ := e1
  have E2 : Hid _ := e2
  clear e1 e2
  by_cases h : a.f2.size + b.f2.size ≤ 255
  · have h' : (a.f2.size : Int) + (b.f2.size : Int) ≤ 255 := by omega
    go_enter Tryz.func108, Tryz.ntmps108
    go_wp2
    refine bodyPost_ret (v := vaV (app ltB 4 a b)) (by simp [results, Tryz.results108, go_sem, app, E2.out h]) rfl ⟨rfl, ?_⟩
    repeat (first | exact Below.refl _ _ | apply ba)
  · have h' : 255 < (a.f2.size : Int) + (b.f2.size : Int) := by omega
    have h2 : 255 ≤ a.f2.size + b.f2.size := by omega
    go_enter Tryz.func108, Tryz.ntmps108
    go_wp2
    refine bodyPost_ret (v := vaV (app ltB 4 a b)) (by simp [results, Tryz.results108, go_sem, app, E1.out h2]) rfl ⟨rfl, ?_⟩
    repeat (first | exact Below.refl _ _ | apply ba)
set_option maxHeartbeats 800000 in
theorem op12_c (a b : Va) (w : World) : Calls Tryz.prog 116 #[vaV a, vaV b] w fun e w' => e = .returned (vaV (app ltB 11 a b)) ∧ Below w.heap.size w w' := by
  by_cases h1 : a.f1 = 1 <;> by_cases h2 : b.f1 = 1
  · have h1' : (a.f1 == 1) = true := by simp [h1]
    have h2' : (b.f1 == 1) = true := by simp [h2]
    have H1 : Hid (a.f1 = 1) := h1
    have H2 : Hid (b.f1 = 1) := h2
    clear h1 h2
    go_enter Tryz.func116, Tryz.ntmps116
    go_wp2_with fail
    refine (truth_c _ _).mono ?_
    rintro e w1 ⟨rfl, hb⟩
    have HB : Hid _ := hb
    have hblk := bk hb (n := w.heap.size + 1 + 1) (alloc_at (by simp))
    have HK : Hid _ := hblk
    have qc0 := blk_cell hblk 0 rfl
    have qf0 := blk_free hblk 0
    have qc1 := blk_cell hblk 1 rfl
    have qf1 := blk_free hblk 1
    have qc2 := blk_cell hblk 2 rfl
    have qf2 := blk_free hblk 2
    clear hb hblk
    go_wp2_with fail
    rw [set3 HK.out]
    refine bodyPost_ret (ret1 Tryz.results116 rfl (setRow_heap _ _ _ _ _ _ HK.out) Tryz.isAgg23 Tryz.sizeOf23) rfl ⟨?_, ?_⟩
    · simp [app, H1.out, H2.out, tr]
    · exact bsr (bt (ba (ba (ba (Below.refl _ _) _) _) _) HB.out) (by omega) _
  · have h1' : (a.f1 == 1) = true := by simp [h1]
    have h2' : (b.f1 == 1) = false := by simp [h2]
    have H1 : Hid (a.f1 = 1) := h1
    have H2 : Hid (b.f1 ≠ 1) := h2
    clear h1 h2
    go_enter Tryz.func116, Tryz.ntmps116
    go_wp2_with fail
    refine (truth_c _ _).mono ?_
    rintro e w1 ⟨rfl, hb⟩
    have HB : Hid _ := hb
    have hblk := bk hb (n := w.heap.size + 1 + 1) (alloc_at (by simp))
    have HK : Hid _ := hblk
    have qc0 := blk_cell hblk 0 rfl
    have qf0 := blk_free hblk 0
    have qc1 := blk_cell hblk 1 rfl
    have qf1 := blk_free hblk 1
    have qc2 := blk_cell hblk 2 rfl
    have qf2 := blk_free hblk 2
    clear hb hblk
    go_wp2_with fail
    rw [set3 HK.out]
    refine bodyPost_ret (ret1 Tryz.results116 rfl (setRow_heap _ _ _ _ _ _ HK.out) Tryz.isAgg23 Tryz.sizeOf23) rfl ⟨?_, ?_⟩
    · simp [app, H1.out, H2.out, tr]
    · exact bsr (bt (ba (ba (ba (Below.refl _ _) _) _) _) HB.out) (by omega) _
  · have h1' : (a.f1 == 1) = false := by simp [h1]
    have h2' : (b.f1 == 1) = true := by simp [h2]
    have H1 : Hid (a.f1 ≠ 1) := h1
    have H2 : Hid (b.f1 = 1) := h2
    clear h1 h2
    go_enter Tryz.func116, Tryz.ntmps116
    go_wp2_with fail
    refine (truth_c _ _).mono ?_
    rintro e w1 ⟨rfl, hb⟩
    have HB : Hid _ := hb
    have hblk := bk hb (n := w.heap.size + 1 + 1) (alloc_at (by simp))
    have HK : Hid _ := hblk
    have qc0 := blk_cell hblk 0 rfl
    have qf0 := blk_free hblk 0
    have qc1 := blk_cell hblk 1 rfl
    have qf1 := blk_free hblk 1
    have qc2 := blk_cell hblk 2 rfl
    have qf2 := blk_free hblk 2
    clear hb hblk
    go_wp2_with fail
    rw [set3 HK.out]
    refine bodyPost_ret (ret1 Tryz.results116 rfl (setRow_heap _ _ _ _ _ _ HK.out) Tryz.isAgg23 Tryz.sizeOf23) rfl ⟨?_, ?_⟩
    · simp [app, H1.out, H2.out, tr]
    · exact bsr (bt (ba (ba (ba (Below.refl _ _) _) _) _) HB.out) (by omega) _
  · have h1' : (a.f1 == 1) = false := by simp [h1]
    have h2' : (b.f1 == 1) = false := by simp [h2]
    have H1 : Hid (a.f1 ≠ 1) := h1
    have H2 : Hid (b.f1 ≠ 1) := h2
    clear h1 h2
    go_enter Tryz.func116, Tryz.ntmps116
    go_wp2_with fail
    refine (truth_c _ _).mono ?_
    rintro e w1 ⟨rfl, hb⟩
    have HB : Hid _ := hb
    have hblk := bk hb (n := w.heap.size + 1 + 1) (alloc_at (by simp))
    have HK : Hid _ := hblk
    have qc0 := blk_cell hblk 0 rfl
    have qf0 := blk_free hblk 0
    have qc1 := blk_cell hblk 1 rfl
    have qf1 := blk_free hblk 1
    have qc2 := blk_cell hblk 2 rfl
    have qf2 := blk_free hblk 2
    clear hb hblk
    go_wp2_with fail
    rw [set3 HK.out]
    refine bodyPost_ret (ret1 Tryz.results116 rfl (setRow_heap _ _ _ _ _ _ HK.out) Tryz.isAgg23 Tryz.sizeOf23) rfl ⟨?_, ?_⟩
    · simp [app, H1.out, H2.out, tr]
    · exact bsr (bt (ba (ba (ba (Below.refl _ _) _) _) _) HB.out) (by omega) _
set_option maxHeartbeats 800000 in
theorem op13_c (a b : Va) (w : World) : Calls Tryz.prog 117 #[vaV a, vaV b] w fun e w' => e = .returned (vaV (app ltB 12 a b)) ∧ Below w.heap.size w w' := by
  by_cases h1 : a.f1 = 1 <;> by_cases h2 : b.f1 = 1
  · have h1' : (a.f1 == 1) = true := by simp [h1]
    have h2' : (b.f1 == 1) = true := by simp [h2]
    have H1 : Hid (a.f1 = 1) := h1
    have H2 : Hid (b.f1 = 1) := h2
    clear h1 h2
    go_enter Tryz.func117, Tryz.ntmps117
    go_wp2_with fail
    refine (truth_c _ _).mono ?_
    rintro e w1 ⟨rfl, hb⟩
    have HB : Hid _ := hb
    have hblk := bk hb (n := w.heap.size + 1 + 1) (alloc_at (by simp))
    have HK : Hid _ := hblk
    have qc0 := blk_cell hblk 0 rfl
    have qf0 := blk_free hblk 0
    have qc1 := blk_cell hblk 1 rfl
    have qf1 := blk_free hblk 1
    have qc2 := blk_cell hblk 2 rfl
    have qf2 := blk_free hblk 2
    clear hb hblk
    go_wp2_with fail
    rw [set3 HK.out]
    refine bodyPost_ret (ret1 Tryz.results117 rfl (setRow_heap _ _ _ _ _ _ HK.out) Tryz.isAgg23 Tryz.sizeOf23) rfl ⟨?_, ?_⟩
    · simp [app, H1.out, H2.out, tr]
    · exact bsr (bt (ba (ba (ba (Below.refl _ _) _) _) _) HB.out) (by omega) _
  · have h1' : (a.f1 == 1) = true := by simp [h1]
    have h2' : (b.f1 == 1) = false := by simp [h2]
    have H1 : Hid (a.f1 = 1) := h1
    have H2 : Hid (b.f1 ≠ 1) := h2
    clear h1 h2
    go_enter Tryz.func117, Tryz.ntmps117
    go_wp2_with fail
    refine (truth_c _ _).mono ?_
    rintro e w1 ⟨rfl, hb⟩
    have HB : Hid _ := hb
    have hblk := bk hb (n := w.heap.size + 1 + 1) (alloc_at (by simp))
    have HK : Hid _ := hblk
    have qc0 := blk_cell hblk 0 rfl
    have qf0 := blk_free hblk 0
    have qc1 := blk_cell hblk 1 rfl
    have qf1 := blk_free hblk 1
    have qc2 := blk_cell hblk 2 rfl
    have qf2 := blk_free hblk 2
    clear hb hblk
    go_wp2_with fail
    rw [set3 HK.out]
    refine bodyPost_ret (ret1 Tryz.results117 rfl (setRow_heap _ _ _ _ _ _ HK.out) Tryz.isAgg23 Tryz.sizeOf23) rfl ⟨?_, ?_⟩
    · simp [app, H1.out, H2.out, tr]
    · exact bsr (bt (ba (ba (ba (Below.refl _ _) _) _) _) HB.out) (by omega) _
  · have h1' : (a.f1 == 1) = false := by simp [h1]
    have h2' : (b.f1 == 1) = true := by simp [h2]
    have H1 : Hid (a.f1 ≠ 1) := h1
    have H2 : Hid (b.f1 = 1) := h2
    clear h1 h2
    go_enter Tryz.func117, Tryz.ntmps117
    go_wp2_with fail
    refine (truth_c _ _).mono ?_
    rintro e w1 ⟨rfl, hb⟩
    have HB : Hid _ := hb
    have hblk := bk hb (n := w.heap.size + 1 + 1) (alloc_at (by simp))
    have HK : Hid _ := hblk
    have qc0 := blk_cell hblk 0 rfl
    have qf0 := blk_free hblk 0
    have qc1 := blk_cell hblk 1 rfl
    have qf1 := blk_free hblk 1
    have qc2 := blk_cell hblk 2 rfl
    have qf2 := blk_free hblk 2
    clear hb hblk
    go_wp2_with fail
    rw [set3 HK.out]
    refine bodyPost_ret (ret1 Tryz.results117 rfl (setRow_heap _ _ _ _ _ _ HK.out) Tryz.isAgg23 Tryz.sizeOf23) rfl ⟨?_, ?_⟩
    · simp [app, H1.out, H2.out, tr]
    · exact bsr (bt (ba (ba (ba (Below.refl _ _) _) _) _) HB.out) (by omega) _
  · have h1' : (a.f1 == 1) = false := by simp [h1]
    have h2' : (b.f1 == 1) = false := by simp [h2]
    have H1 : Hid (a.f1 ≠ 1) := h1
    have H2 : Hid (b.f1 ≠ 1) := h2
    clear h1 h2
    go_enter Tryz.func117, Tryz.ntmps117
    go_wp2_with fail
    refine (truth_c _ _).mono ?_
    rintro e w1 ⟨rfl, hb⟩
    have HB : Hid _ := hb
    have hblk := bk hb (n := w.heap.size + 1 + 1) (alloc_at (by simp))
    have HK : Hid _ := hblk
    have qc0 := blk_cell hblk 0 rfl
    have qf0 := blk_free hblk 0
    have qc1 := blk_cell hblk 1 rfl
    have qf1 := blk_free hblk 1
    have qc2 := blk_cell hblk 2 rfl
    have qf2 := blk_free hblk 2
    clear hb hblk
    go_wp2_with fail
    rw [set3 HK.out]
    refine bodyPost_ret (ret1 Tryz.results117 rfl (setRow_heap _ _ _ _ _ _ HK.out) Tryz.isAgg23 Tryz.sizeOf23) rfl ⟨?_, ?_⟩
    · simp [app, H1.out, H2.out, tr]
    · exact bsr (bt (ba (ba (ba (Below.refl _ _) _) _) _) HB.out) (by omega) _
set_option maxHeartbeats 800000 in
theorem op14_c (a b : Va) (w : World) : Calls Tryz.prog 118 #[vaV a, vaV b] w fun e w' => e = .returned (vaV (app ltB 13 a b)) ∧ Below w.heap.size w w' := by
  by_cases h1 : a.f1 = 0
  · have h1' : (a.f1 == 0) = true := by simp [h1]
    have H1 : Hid (a.f1 = 0) := h1
    clear h1
    go_enter Tryz.func118, Tryz.ntmps118
    go_wp2_with fail
    refine (truth_c _ _).mono ?_
    rintro e w1 ⟨rfl, hb⟩
    have HB : Hid _ := hb
    have hblk := bk hb (n := w.heap.size + 1 + 1) (alloc_at (by simp))
    have HK : Hid _ := hblk
    have qc0 := blk_cell hblk 0 rfl
    have qf0 := blk_free hblk 0
    have qc1 := blk_cell hblk 1 rfl
    have qf1 := blk_free hblk 1
    have qc2 := blk_cell hblk 2 rfl
    have qf2 := blk_free hblk 2
    clear hb hblk
    go_wp2_with fail
    rw [set3 HK.out]
    refine bodyPost_ret (ret1 Tryz.results118 rfl (setRow_heap _ _ _ _ _ _ HK.out) Tryz.isAgg23 Tryz.sizeOf23) rfl ⟨?_, ?_⟩
    · simp [app, H1.out, tr]
    · exact bsr (bt (ba (ba (ba (Below.refl _ _) _) _) _) HB.out) (by omega) _
  · have h1' : (a.f1 == 0) = false := by simp [h1]
    have H1 : Hid (a.f1 ≠ 0) := h1
    clear h1
    go_enter Tryz.func118, Tryz.ntmps118
    go_wp2_with fail
    refine (truth_c _ _).mono ?_
    rintro e w1 ⟨rfl, hb⟩
    have HB : Hid _ := hb
    have hblk := bk hb (n := w.heap.size + 1 + 1) (alloc_at (by simp))
    have HK : Hid _ := hblk
    have qc0 := blk_cell hblk 0 rfl
    have qf0 := blk_free hblk 0
    have qc1 := blk_cell hblk 1 rfl
    have qf1 := blk_free hblk 1
    have qc2 := blk_cell hblk 2 rfl
    have qf2 := blk_free hblk 2
    clear hb hblk
    go_wp2_with fail
    rw [set3 HK.out]
    refine bodyPost_ret (ret1 Tryz.results118 rfl (setRow_heap _ _ _ _ _ _ HK.out) Tryz.isAgg23 Tryz.sizeOf23) rfl ⟨?_, ?_⟩
    · simp [app, H1.out, tr]
    · exact bsr (bt (ba (ba (ba (Below.refl _ _) _) _) _) HB.out) (by omega) _
set_option maxHeartbeats 400000 in
theorem cmp6_c (c : Int) (w : World) : Calls Tryz.prog 110 #[.int .i64 c] w fun e w' => e = .returned (.bool (decide (c = 0))) ∧ w = w' := by
  go_enter Tryz.func110, Tryz.ntmps110
  go_wp2
  go_ret
  exact ⟨ret_bool (by first | rfl | (rw [Bool.eq_iff_iff]; simp)), rfl⟩
set_option maxHeartbeats 400000 in
theorem cmp7_c (c : Int) (w : World) : Calls Tryz.prog 111 #[.int .i64 c] w fun e w' => e = .returned (.bool (decide (c ≠ 0))) ∧ w = w' := by
  go_enter Tryz.func111, Tryz.ntmps111
  go_wp2
  go_ret
  exact ⟨ret_bool (by first | rfl | (rw [Bool.eq_iff_iff]; simp)), rfl⟩
set_option maxHeartbeats 400000 in
theorem cmp8_c (c : Int) (w : World) : Calls Tryz.prog 112 #[.int .i64 c] w fun e w' => e = .returned (.bool (decide (c < 0))) ∧ w = w' := by
  go_enter Tryz.func112, Tryz.ntmps112
  go_wp2
  go_ret
  exact ⟨ret_bool (by first | rfl | (rw [Bool.eq_iff_iff]; simp)), rfl⟩
set_option maxHeartbeats 400000 in
theorem cmp9_c (c : Int) (w : World) : Calls Tryz.prog 113 #[.int .i64 c] w fun e w' => e = .returned (.bool (decide (c ≤ 0))) ∧ w = w' := by
  go_enter Tryz.func113, Tryz.ntmps113
  go_wp2
  go_ret
  exact ⟨ret_bool (by first | rfl | (rw [Bool.eq_iff_iff]; simp)), rfl⟩
set_option maxHeartbeats 400000 in
theorem cmp10_c (c : Int) (w : World) : Calls Tryz.prog 114 #[.int .i64 c] w fun e w' => e = .returned (.bool (decide (c > 0))) ∧ w = w' := by
  go_enter Tryz.func114, Tryz.ntmps114
  go_wp2
  go_ret
  exact ⟨ret_bool (by first | rfl | (rw [Bool.eq_iff_iff]; simp)), rfl⟩
set_option maxHeartbeats 400000 in
theorem cmp11_c (c : Int) (w : World) : Calls Tryz.prog 115 #[.int .i64 c] w fun e w' => e = .returned (.bool (decide (c ≥ 0))) ∧ w = w' := by
  go_enter Tryz.func115, Tryz.ntmps115
  go_wp2
  go_ret
  exact ⟨ret_bool (by first | rfl | (rw [Bool.eq_iff_iff]; simp)), rfl⟩
end Go.Proofs.YtemedepjmnncbaaGreatDoor
