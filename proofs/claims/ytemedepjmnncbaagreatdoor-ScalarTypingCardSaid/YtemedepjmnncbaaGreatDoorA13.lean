import Derived.Test.YtemedepjmnncbaaGreatDoorA12
namespace Go.Proofs.YtemedepjmnncbaaGreatDoor
set_option linter.unusedVariables false
set_option linter.unusedSimpArgs false
open Go.RowKit Go.Shelf Pu

/-- What Type returns. -/
def TypeP (cs : List Co) (x : Sc) : Int × Int :=
  if valid x then (if (refs x).any fun i => decide (i ≥ (cs.length : Int)) then (0, 2) else match typ cs x with | some t => (t, 0) | none => (0, 7)) else (0, 1)
theorem valid_ok {x : Sc} (h : valid x = true) : okT x = true ∧ size x ≤ 256 := by unfold valid at h; simp at h; exact ⟨h.2, h.1⟩
theorem any_cols (x : Sc) (p : Int → Bool) : (cols x).any p = (refs x).any p := by
  rw [Bool.eq_iff_iff, List.any_eq_true, List.any_eq_true]
  constructor
  · rintro ⟨i, h1, h2⟩; exact ⟨i, mem_cols.1 h1, h2⟩
  · rintro ⟨i, h1, h2⟩; exact ⟨i, mem_cols.2 h1, h2⟩
set_option maxRecDepth 100000 in
set_option maxHeartbeats 2000000 in
theorem Type_c (cs : List Co) (x : Sc) (A : Option Addr) (c : Nat) (R : Option Addr) (cr : Nat) (w : World) (hW : scW x) (hc : x.f4.length ≤ c) (hr : ScRow (· < w.heap.size) w A x.f4) (hrow : CoRow (· < w.heap.size) w R cs) :
    Calls Tryz.prog 14 #[scV x A c, .slice R cs.length cr] w fun e w' => e = .returned (.tuple #[.int .i64 (TypeP cs x).1, .int .i64 (TypeP cs x).2]) ∧ Below w.heap.size w w' := by
  have hmf : ∀ (fn : Fn) (first cap : Array Value) (w : World), (Instr.makeFunc fn first cap).run Tryz.prog w = .ok (.func fn first cap) w := fun _ _ _ _ => rfl
  have ent := enters_of (P := Tryz.prog) Tryz.func48 (by kernel_rfl) rfl
  have hlr := hrow.1
  have hlx := hr.1
  have HT : Hid _ := typed_c cs x
  go_enter Tryz.func14, Tryz.ntmps14
  go_wp2_with fail
  refine (valid_c x A c _ hW hc (hr.low ((Below.refl _ _).alloc (Nat.le_refl _) _ |>.alloc (by simp) _) (by simp; omega))).mono ?_
  rintro e w1 ⟨rfl, hb⟩
  have HB : Hid (Below w.heap.size w w1) := bt (ba (ba (Below.refl _ _) _) _) hb
  have hblk := bk hb (n := w.heap.size) (alloc_lt (alloc_at rfl))
  have HK : Hid (w1.heap[w.heap.size + 1]? = some (Obj.cells #[.slice R cs.length cr] 27 (0, 0))) := bk hb (n := w.heap.size + 1) (alloc_at (by simp))
  have hlt1 := heap_lt HK.out
  have qc0 := blk_cell hblk 0 rfl
  have qc1 := blk_cell hblk 1 rfl
  have qc2 := blk_cell hblk 2 rfl
  have qc3 := blk_cell hblk 3 rfl
  have qc4 := blk_cell hblk 4 rfl
  have qc5 := blk_cell hblk 5 rfl
  have qc6 := blk_cell hblk 6 rfl
  have HK0 : Hid _ := hblk
  clear hb hblk
  cases hv : valid x with
  | false =>
    have HV : Hid _ := hv
    clear hv
    go_wp2_with fail
    go_ret2
    refine ⟨?_, HB.out⟩
    simp [TypeP, HV.out]
  | true =>
    have HV : Hid _ := hv
    have HOK : Hid _ := valid_ok hv
    clear hv
    go_wp2_with fail
    refine (Columns_c x A c _ hW (Nat.le_trans HOK.out.2 (by decide)) hc (hr.low HB.out HB.out.size)).mono ?_
    rintro e w2 ⟨A2, c2, rfl, hl2, hI, hb2⟩
    have HB2 : Hid _ := hb2
    have HI : Hid _ := hI
    have HK2 : Hid _ := bk hb2 HK.out
    have HK3 : Hid _ := bk hb2 HK0.out
    have r0 := blk_cell HK2.out 0 rfl
    have sc0 := blk_cell HK3.out 0 rfl
    have sc1 := blk_cell HK3.out 1 rfl
    have sc2 := blk_cell HK3.out 2 rfl
    have sc3 := blk_cell HK3.out 3 rfl
    have sc4 := blk_cell HK3.out 4 rfl
    have sc5 := blk_cell HK3.out 5 rfl
    have sc6 := blk_cell HK3.out 6 rfl
    have hlt2 := heap_lt HK2.out
    clear hb2 hI
    have hcon := ContainsFunc_c (cols x) A2 c2 48 #[.pointer (some ⟨w.heap.size + 1, 0, none⟩)] (fun i => decide (i ≥ (cs.length : Int))) w2 ent (fun i _ W hW hs => Type1_c i (w.heap.size + 1) cs.length cr R W hlr (bk hW HK2.out)) (IntRow.move HI.out fun b hb => ⟨hb.2, rfl⟩)
    rw [any_cols] at hcon
    have HC : Hid _ := hcon
    clear hcon
    go_wp2_with fail
    refine Calls.mono HC.out ?_
    rintro e w3 ⟨rfl, hb3⟩
    have HB3 : Hid _ := hb3
    have HK4 : Hid _ := bk hb3 HK2.out
    have HK5 : Hid _ := bk hb3 HK3.out
    have p0 := blk_cell HK4.out 0 rfl
    have tc0 := blk_cell HK5.out 0 rfl
    have tc1 := blk_cell HK5.out 1 rfl
    have tc2 := blk_cell HK5.out 2 rfl
    have tc3 := blk_cell HK5.out 3 rfl
    have tc4 := blk_cell HK5.out 4 rfl
    have tc5 := blk_cell HK5.out 5 rfl
    have tc6 := blk_cell HK5.out 6 rfl
    clear hb3
    cases hany : (refs x).any fun i => decide (i ≥ (cs.length : Int)) with
    | true =>
      have HA : Hid _ := hany
      clear hany
      go_wp2_with fail
      go_ret2
      refine ⟨?_, bt (bt HB.out HB2.out) HB3.out⟩
      have e : TypeP cs x = (0, 2) := by unfold TypeP; rw [if_pos HV.out, if_pos HA.out]
      rw [e]; rfl
    | false =>
      have HA : Hid _ := hany
      have HR : Hid (∀ i ∈ refs x, i < (cs.length : Int)) := fun i hi => by
        have := List.any_eq_false.1 hany i hi; simpa using this
      clear hany
      have HBB : Hid _ := bt (bt HB.out HB2.out) HB3.out
      go_wp2_with fail
      refine (HT.out _ A c R cr HOK.out.1 HR.out hc (hr.low HBB.out HBB.out.size) (hrow.low HBB.out HBB.out.size)).mono ?_
      rintro e w4 ⟨⟨k, b, rfl, hT⟩, hb4⟩
      have HB4 : Hid _ := hb4
      clear hb4
      cases b with
      | false =>
        have HN : Hid (typ cs x = none) := TypeO.no hT
        clear hT
        go_wp2_with fail
        go_ret2
        refine ⟨?_, bt HBB.out HB4.out⟩
        simp [TypeP, HV.out, HA.out, HN.out]
      | true =>
        have HN : Hid (typ cs x = some k) := TypeO.yes hT
        clear hT
        go_wp2_with fail
        go_ret2
        refine ⟨?_, bt HBB.out HB4.out⟩
        simp [TypeP, HV.out, HA.out, HN.out]
end Go.Proofs.YtemedepjmnncbaaGreatDoor
