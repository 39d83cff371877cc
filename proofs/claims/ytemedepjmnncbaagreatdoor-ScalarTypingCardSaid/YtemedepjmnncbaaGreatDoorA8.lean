import Derived.Test.YtemedepjmnncbaaGreatDoorA7
import Derived.Deep.RegionWith
import Derived.Deep.RegionHeld3
namespace Go.Proofs.YtemedepjmnncbaaGreatDoor
set_option linter.unusedVariables false
set_option linter.unusedSimpArgs false
open Go.RowKit Go.Shelf Pu

theorem cells3 {W : World} {g t : Nat} {a b c : Value} (h : W.heap[g]? = some (Obj.cells #[a, b, c] t (0, 0))) :
    W.cell? ⟨g, 0, none⟩ = some a ∧ W.cell? ⟨g, 1, none⟩ = some b ∧ W.cell? ⟨g, 2, none⟩ = some c ∧ W.frozen? ⟨g, 0, none⟩ = false ∧ W.frozen? ⟨g, 1, none⟩ = false ∧ W.frozen? ⟨g, 2, none⟩ = false :=
  ⟨blk_cell h 0 rfl, blk_cell h 1 rfl, blk_cell h 2 rfl, blk_free h 0, blk_free h 1, blk_free h 2⟩
set_option maxRecDepth 100000 in
set_option maxHeartbeats 4000000 in
theorem comparison1_c (a b : Va) (B g : Nat) (p : Int → Bool) (w : World) (eg : ∀ args w, (callFunc g args).run Tryz.prog w = .ok (.enter g args) w)
    (hB : w.heap[B]? = some (Obj.cells #[.func (.func g) #[] #[]] 70 (0, 0))) (hp : ∀ c W, Calls Tryz.prog g #[.int .i64 c] W fun e w' => e = .returned (.bool (p c)) ∧ W = w') :
    Calls Tryz.prog 135 #[vaV a, vaV b, .pointer (some ⟨B, 0, none⟩)] w fun e w' => e = .returned (vaV (tr (p (cmpV ltB a b)))) ∧ Below w.heap.size w w' := by
  have hlt := heap_lt hB
  have c0 : w.cell? ⟨B, 0, none⟩ = some (.func (.func g) #[] #[]) := blk_cell hB 0 rfl
  have cc : ∀ o1 o2 o3 : Obj, (((w.alloc o1).alloc o2).alloc o3).cell? ⟨B, 0, none⟩ = some (.func (.func g) #[] #[]) := fun o1 o2 o3 => blk_cell (alloc_lt (alloc_lt (alloc_lt hB))) 0 rfl
  have HB : Hid _ := hB
  clear hB
  go_enter Tryz.func135, Tryz.ntmps135
  go_wp2_with fail
  go_region_with (first | (go_at_call 136; refine (compare_c a b _).mono ?_; rintro e w1 ⟨rfl, hb⟩; have c1 := blk_cell (bk hb (n := B) (x := Obj.cells #[.func (.func g) #[] #[]] 70 (0, 0)) (alloc_lt (alloc_lt (alloc_lt HB.out)))) 0 rfl) | (go_at_fn g; refine (hp _ _).mono ?_; rintro e w2 ⟨rfl, rfl⟩) | (go_at_call 68; refine (truth_c _ _).mono ?_; rintro e w3 ⟨rfl, hb3⟩; have hblk := bk hb3 (n := w.heap.size + 1 + 1) (x := Obj.cells #[.int .i64 0, .int .i64 0, .string ⟨#[]⟩] 23 (0, 0)) (bk hb (alloc_at (by simp))); have HK : Hid _ := hblk; obtain ⟨q0, q1, q2, r0, r1, r2⟩ := cells3 hblk; clear hblk))
  all_goals go_wp2_with fail
  all_goals (rw [set3 HK.out]; refine bodyPost_ret (ret1 Tryz.results135 rfl (setRow_heap _ _ _ _ _ _ HK.out) Tryz.isAgg23 Tryz.sizeOf23) rfl ⟨rfl, bsr (bt (bt (bd (ba (ba (ba (Below.refl _ _) _) _) _)) hb) hb3) (by omega) _⟩)
end Go.Proofs.YtemedepjmnncbaaGreatDoor
