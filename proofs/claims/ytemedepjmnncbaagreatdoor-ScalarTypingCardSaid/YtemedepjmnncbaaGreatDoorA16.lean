import Derived.Test.YtemedepjmnncbaaGreatDoorA15
namespace Go.Proofs.YtemedepjmnncbaaGreatDoor
set_option linter.unusedVariables false
set_option linter.unusedSimpArgs false
open Go.RowKit Go.Shelf Pu
def FormatP (x : Sc) : List UInt8 := if valid x then text x else []
set_option maxHeartbeats 1000000 in
theorem Format_c (x : Sc) (A : Option Addr) (c : Nat) (w : World) (hE : Env w) (hW : scW x) (hc : x.f4.length ≤ c) (hr : ScRow (· < w.heap.size) w A x.f4) :
    Calls Tryz.prog 27 #[scV x A c] w fun e w' => e = .returned (.string ⟨(FormatP x).toArray⟩) ∧ Below w.heap.size w w' := by
  have hlx := hr.1
  have HE : Hid _ := hE
  clear hE
  go_enter Tryz.func27, Tryz.ntmps27
  go_wp2_with fail
  refine (valid_c x A c _ hW hc (hr.low ((Below.refl _ _).alloc (Nat.le_refl _) _) (by simp))).mono ?_
  rintro e w1 ⟨rfl, hb⟩
  have HB : Hid (Below w.heap.size w w1) := bt (ba (Below.refl _ _) _) hb
  have hblk := bk hb (n := w.heap.size) (alloc_at rfl)
  have qc0 := blk_cell hblk 0 rfl
  have qc1 := blk_cell hblk 1 rfl
  have qc2 := blk_cell hblk 2 rfl
  have qc3 := blk_cell hblk 3 rfl
  have qc4 := blk_cell hblk 4 rfl
  have qc5 := blk_cell hblk 5 rfl
  have qc6 := blk_cell hblk 6 rfl
  clear hb hblk
  cases hv : valid x with
  | false =>
    have HV : Hid _ := hv
    clear hv
    go_wp2_with fail
    go_ret
    exact ⟨by unfold FormatP; rw [HV.out]; rfl, HB.out⟩
  | true =>
    have HV : Hid _ := hv
    have hok : okT x = true ∧ size x ≤ 256 := by unfold valid at hv; simp at hv; exact ⟨hv.2, hv.1⟩
    have HOK : Hid _ := hok
    have HT : Hid _ := text_c x hok.1
    clear hv hok
    go_wp2_with fail
    refine (HT.out _ A c hW (Nat.le_trans HOK.out.2 (by decide)) (Env.below HE.out HB.out) (hr.low HB.out HB.out.size)).mono ?_
    rintro e w2 ⟨rfl, hb2⟩
    have HB2 : Hid _ := hb2
    clear hb2
    go_wp2_with fail
    go_ret
    exact ⟨by unfold FormatP; rw [HV.out]; rfl, bt HB.out HB2.out⟩
end Go.Proofs.YtemedepjmnncbaaGreatDoor
