import Derived.Test.YtemedepjmnncbaaGreatDoorA18
namespace Go.Proofs.YtemedepjmnncbaaGreatDoor
set_option linter.unusedVariables false
set_option linter.unusedSimpArgs false
open Go.RowKit Go.Shelf Pu
def FoldP (x : Sc) : Sc := if valid x then Pu.fold ltB x else x
set_option maxHeartbeats 1000000 in
theorem Fold_c (x : Sc) (A : Option Addr) (c : Nat) (w : World) (hW : scW x) (hc : x.f4.length ≤ c) (hr : ScRow (· < w.heap.size) w A x.f4) :
    Calls Tryz.prog 25 #[scV x A c] w fun e w' => FoldR w.heap.size w (FoldP x) e w' ∧ Below w.heap.size w w' := by
  have hlx := hr.1
  go_enter Tryz.func25, Tryz.ntmps25
  go_wp2_with fail
  refine (valid_c x A c _ hW hc (hr.low ((Below.refl _ _).alloc (Nat.le_refl _) _ |>.alloc (by simp) _) (by simp; omega))).mono ?_
  rintro e w1 ⟨rfl, hb⟩
  have HB : Hid (Below w.heap.size w w1) := bt (ba (ba (Below.refl _ _) _) _) hb
  have hblk := bk hb (n := w.heap.size) (alloc_lt (alloc_at rfl))
  have HK : Hid _ := bk hb (n := w.heap.size + 1) (alloc_at (by simp))
  have hlt1 := heap_lt HK.out
  have HR : Hid _ := hr
  have qc0 := blk_cell hblk 0 rfl
  have qc1 := blk_cell hblk 1 rfl
  have qc2 := blk_cell hblk 2 rfl
  have qc3 := blk_cell hblk 3 rfl
  have qc4 := blk_cell hblk 4 rfl
  have qc5 := blk_cell hblk 5 rfl
  have qc6 := blk_cell hblk 6 rfl
  clear hb hblk
  cases hv : valid x with
  | false =>
    have HV : Hid _ := hv
    have z2 := HK.out
    have yc0 := blk_cell z2 0 rfl
    have yf0 := blk_free z2 0
    have yc1 := blk_cell z2 1 rfl
    have yf1 := blk_free z2 1
    have yc2 := blk_cell z2 2 rfl
    have yf2 := blk_free z2 2
    have yc3 := blk_cell z2 3 rfl
    have yf3 := blk_free z2 3
    have yc4 := blk_cell z2 4 rfl
    have yf4 := blk_free z2 4
    have yc5 := blk_cell z2 5 rfl
    have yf5 := blk_free z2 5
    have yc6 := blk_cell z2 6 rfl
    have yf6 := blk_free z2 6
    clear hv z2
    go_wp2_with fail
    rw [set7 HK.out]
    refine bodyPost_ret (ret1 Tryz.results25 rfl (setRow_heap _ _ _ _ _ _ HK.out) Tryz.isAgg26 Tryz.sizeOf26) rfl ⟨FoldR_mk (by rw [FoldP, HV.out]; rfl) hc (ScRow.move HR.out fun b hb => ⟨.inl hb, (setRow_other _ _ _ _ (by omega)).trans (HB.out.block b hb)⟩), bsr HB.out (by omega) _⟩
  | true =>
    have HV : Hid _ := hv
    have hok : okT x = true := by unfold valid at hv; simp at hv; exact hv.2
    have HF : Hid (Calls Tryz.prog 63 #[scV x A c] w1 fun e W' => FoldR w.heap.size w1 (Pu.fold ltB x) e W' ∧ Below w1.heap.size w1 W') := fold_c x w.heap.size w1 A c hok HB.out.size hc (ScRow.below HR.out HB.out)
    clear hv hok
    go_wp2_with fail
    refine HF.out.mono ?_
    rintro e w2 ⟨⟨A2, c2, rfl, hc2, hr2⟩, hb2⟩
    have HB2 : Hid _ := hb2
    have HR2 : Hid _ := hr2
    have HK2 : Hid _ := bk hb2 HK.out
    have z2 := HK2.out
    have yc0 := blk_cell z2 0 rfl
    have yf0 := blk_free z2 0
    have yc1 := blk_cell z2 1 rfl
    have yf1 := blk_free z2 1
    have yc2 := blk_cell z2 2 rfl
    have yf2 := blk_free z2 2
    have yc3 := blk_cell z2 3 rfl
    have yf3 := blk_free z2 3
    have yc4 := blk_cell z2 4 rfl
    have yf4 := blk_free z2 4
    have yc5 := blk_cell z2 5 rfl
    have yf5 := blk_free z2 5
    have yc6 := blk_cell z2 6 rfl
    have yf6 := blk_free z2 6
    clear hb2 hr2 z2
    go_wp2_with fail
    rw [set7 HK2.out]
    refine bodyPost_ret (ret1 Tryz.results25 rfl (setRow_heap _ _ _ _ _ _ HK2.out) Tryz.isAgg26 Tryz.sizeOf26) rfl ⟨FoldR_mk (by rw [FoldP, HV.out]; rfl) hc2 (ScRow.move HR2.out fun b hb => ⟨?_, setRow_other _ _ _ _ ?_⟩), bsr (bt HB.out HB2.out) (by omega) _⟩
    · rw [setRow_size]; have := HB.out.size; omega
    · omega
set_option maxHeartbeats 400000 in
theorem awk1_c (i : Int) (w : World) : Calls Tryz.prog 43 #[.int .i64 i] w fun e w' => e = .returned (.agg #[.int .i64 0, .int .i64 0, .int .i64 0, .int .i64 i, .string ⟨#[]⟩, .int .i64 0, .slice none 0 0]) ∧ Below w.heap.size w w' := by
  go_enter Tryz.func43, Tryz.ntmps43
  go_wp2_with fail
  refine bodyPost_ret (ret1 Tryz.results43 rfl (alloc_at (by simp)) Tryz.isAgg26 Tryz.sizeOf26) rfl ⟨rfl, ba (Below.refl _ _) _⟩
set_option maxHeartbeats 400000 in
theorem awk2_c (o : Int) (A : Option Addr) (n c : Nat) (w : World) : Calls Tryz.prog 44 #[.int .i64 o, .slice A n c] w fun e w' => e = .returned (.agg #[.int .i64 2, .int .i64 0, .int .i64 0, .int .i64 0, .string ⟨#[]⟩, .int .i64 o, .slice A n c]) ∧ Below w.heap.size w w' := by
  go_enter Tryz.func44, Tryz.ntmps44
  go_wp2_with fail
  refine bodyPost_ret (ret1 Tryz.results44 rfl (alloc_at (by simp)) Tryz.isAgg26 Tryz.sizeOf26) rfl ⟨rfl, ba (Below.refl _ _) _⟩
end Go.Proofs.YtemedepjmnncbaaGreatDoor
