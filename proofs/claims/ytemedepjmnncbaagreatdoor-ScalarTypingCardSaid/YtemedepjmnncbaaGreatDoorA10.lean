import Derived.Test.YtemedepjmnncbaaGreatDoorA9
namespace Go.Proofs.YtemedepjmnncbaaGreatDoor
set_option linter.unusedVariables false
set_option linter.unusedSimpArgs false
open Go.RowKit Go.Shelf Pu

theorem ScRow.low {B B' : Nat} {w w' : World} {A : Option Addr} {l : List Sc} (h : ScRow (· < B) w A l) (hb : Below B w w') (hB : B ≤ B') : ScRow (· < B') w' A l := h.move fun b hb' => ⟨by omega, hb.block b hb'⟩
theorem VaRow.low {B B' : Nat} {w w' : World} {A : Option Addr} {l : List Va} (h : VaRow (· < B) w A l) (hb : Below B w w') (hB : B ≤ B') : VaRow (· < B') w' A l := h.move fun b hb' => ⟨by omega, hb.block b hb'⟩
theorem okT_op {k c : Int} {v : Va} {o : Int} {l : List Sc} (h : okT ⟨k, c, v, o, l⟩ = true) (h0 : k ≠ 0) (h1 : k ≠ 1) : k = 2 ∧ c = 0 ∧ v = vz ∧ (∃ n : Nat, o = n ∧ n < 14 ∧ l.length = ar o) ∧ l.length ≤ 2 ∧ 1 ≤ l.length ∧ ∀ x ∈ l, okT x = true := by
  rcases okT_cases h with ⟨v', e, hv⟩ | ⟨c', e, hc'⟩ | ⟨o', x, e, ho, hx⟩ | ⟨o', x, y, e, g0, g1, g3, hx, hy⟩
  · injection e; contradiction
  · injection e; contradiction
  · injection e with e1 e2 e3 e4 e5
    subst e1 e2 e3 e4 e5
    refine ⟨rfl, rfl, rfl, ⟨o.toNat, by omega, by omega, ?_⟩, by simp, by simp, by simp [hx]⟩
    rcases ho with rfl | rfl <;> rfl
  · injection e with e1 e2 e3 e4 e5
    subst e1 e2 e3 e4 e5
    refine ⟨rfl, rfl, rfl, ⟨o.toNat, by omega, by omega, ?_⟩, by simp, by simp, by simp [hx, hy]⟩
    simp [ar]; omega
theorem evals_map (row : List Va) (l : List Sc) : evals ltB row l = l.map (eval ltB row) := by
  induction l with
  | nil => rfl
  | cons x l ih => simp [evals, ih]
theorem kinds_take_sc {l : List Sc} {kk : Nat} {x : Sc} (hx : l[kk]? = some x) : l.take (kk + 1) = l.take kk ++ [x] := by
  obtain ⟨hk, rfl⟩ := List.getElem?_eq_some_iff.1 hx
  exact (List.take_append_getElem hk).symm
def EvalC (f : Nat) (row : List Va) (t : Sc) : Prop := ∀ (W : World) (A : Option Addr) (c : Nat) (R : Option Addr) (cr : Nat), okT t = true → t.f4.length ≤ c → ScRow (· < W.heap.size) W A t.f4 → VaRow (· < W.heap.size) W R row →
  Calls Tryz.prog f #[scV t A c, .slice R row.length cr] W fun e W' => e = .returned (vaV (eval ltB row t)) ∧ Below W.heap.size W W'
set_option maxRecDepth 100000 in
set_option maxHeartbeats 4000000 in
theorem eval_c (row : List Va) (t : Sc) : EvalC 58 row t := by
  refine Sc.ind (P := EvalC 58 row) ?_ t
  intro k0 c0 v0 o0 l ih W A c R cr hok hc hr hrow
  have hlr := hrow.1
  by_cases h0 : k0 = 0
  · have h0' : (k0 == 0) = true := by simp [h0]
    have H0 : Hid (k0 = 0) := h0
    clear h0
    go_enter Tryz.func58, Tryz.ntmps58
    go_wp2_with fail
    refine bodyPost_ret (ret1 Tryz.results58 rfl (alloc_at (by simp)) Tryz.isAgg23 Tryz.sizeOf23) rfl ⟨?_, ba (ba (Below.refl _ _) _) _⟩
    simp only [eval, H0.out, if_true]
  · have h0' : (k0 == 0) = false := by simp [h0]
    by_cases h1 : k0 = 1
    · have h1' : (k0 == 1) = true := by simp [h1]
      obtain ⟨n, rfl⟩ : ∃ n : Nat, c0 = n := by
        rw [h1] at hok; unfold okT node at hok; simp at hok; exact ⟨c0.toNat, by omega⟩
      have HN : Hid (k0 ≠ 0 ∧ k0 = 1) := ⟨h0, h1⟩
      clear h0 h1
      by_cases hn : n < row.length
      · have hnn : ¬ ((n : Int) ≥ (row.length : Int)) := by omega
        have HNN : Hid (¬ ((n : Int) ≥ (row.length : Int))) := hnn
        have hx := List.getElem?_eq_getElem hn
        obtain ⟨b, o, rfl, hbS, e0, e1, e2⟩ := hrow.get hx
        have hbS' : b < W.heap.size := hbS
        have HX : Hid (row[n]? = some row[n]) := hx
        have E : Hid (W.cell? ⟨b, o + n * 3, none⟩ = some (.int .i64 row[n].f0) ∧ W.cell? ⟨b, o + n * 3 + 1, none⟩ = some (.int .i64 row[n].f1) ∧ W.cell? ⟨b, o + n * 3 + 2, none⟩ = some (.string row[n].f2)) := ⟨e0, e1, e2⟩
        clear hx
        generalize row[n] = x at *
        go_enter Tryz.func58, Tryz.ntmps58
        go_wp2_with fail
        refine bodyPost_ret (ret1 Tryz.results58 rfl (alloc_at (by simp)) Tryz.isAgg23 Tryz.sizeOf23) rfl ⟨?_, ba (ba (Below.refl _ _) _) _⟩
        simp only [eval, if_neg HN.out.1, if_pos HN.out.2, Int.toNat_natCast, List.getD_eq_getElem?_getD, HX.out, Option.getD_some]
        rw [if_neg (by have := HNN.out; omega)]
      · have hnn : (n : Int) ≥ (row.length : Int) := by omega
        have HNN : Hid ((n : Int) ≥ (row.length : Int)) := hnn
        go_enter Tryz.func58, Tryz.ntmps58
        go_wp2_with fail
        refine bodyPost_ret (ret1 Tryz.results58 rfl (alloc_at (by simp)) Tryz.isAgg23 Tryz.sizeOf23) rfl ⟨?_, ba (ba (Below.refl _ _) _) _⟩
        simp only [eval, if_neg HN.out.1, if_pos HN.out.2, if_pos HNN.out]; rfl
    · have h1' : (k0 == 1) = false := by simp [h1]
      obtain ⟨-, rfl, rfl, ⟨n, rfl, hn, hla⟩, hl2, hl1, hokl⟩ := okT_op hok h0 h1
      have HN : Hid (k0 ≠ 0 ∧ k0 ≠ 1) := ⟨h0, h1⟩
      have HOK : Hid _ := hokl
      have HA : Hid _ := hla
      have IH : Hid _ := ih
      clear h0 h1 hokl hla hok ih
      go_enter Tryz.func58, Tryz.ntmps58
      go_wp2_with fail
      go_loopg [5, 30] l.length (fun gg s5 s30 wr => ∃ kk : Nat, kk ≤ l.length ∧ l.length - kk ≤ gg ∧ s30 = .int .i64 kk ∧ Hid (Below W.heap.size W wr) ∧
        Hid (wr.heap[W.heap.size]? = some (Obj.cells #[.int .i64 k0, .int .i64 0, .int .i64 vz.f0, .int .i64 vz.f1, .string vz.f2, .int .i64 (n : Int), .slice A l.length c] 26 (0, 0))) ∧
        Hid (wr.heap[W.heap.size + 1]? = some (Obj.cells #[.int .i64 0, .int .i64 0, .string ⟨#[]⟩] 23 (0, 0))) ∧ ∃ xs, Hid (wr.ownsRow (W.heap.size + 2) 23 3 s5 kk xs) ∧ Hid (RowL vaR 3 ((l.take kk).map (eval ltB row)) xs))
      case atStart => exact ⟨0, Nat.zero_le _, by omega, rfl, ba (ba (Below.refl _ _) _) _, alloc_lt (alloc_at rfl), alloc_at (by simp), [], World.ownsRow_nil _ _ _ _, by simp [RowL, Hid]⟩
      case round =>
        obtain ⟨kk, hkk, hg, rfl, HB, HK0, HK, xs, HO, HR⟩ := hrel
        have hsz : W.heap.size + 1 < wr.heap.size := heap_lt HK.out
        by_cases hlt : kk < l.length
        · have hx := List.getElem?_eq_getElem hlt
          obtain ⟨b, o, A', c', rfl, hbS, hc', hr', e0, e1, e2, e3, e4, e5, e6⟩ := (hr.below HB.out).get hx
          have hih := IH.out l[kk] (List.getElem_mem _)
          have hok' := HOK.out l[kk] (List.getElem_mem _)
          have HX : Hid (l[kk]? = some l[kk]) := hx
          clear hx
          generalize l[kk] = x at *
          have HI : Hid _ := hih
          clear hih
          go_wp2_with fail
          refine (HI.out _ A' c' R cr hok' hc' (hr'.low ((Below.refl _ _).alloc (Nat.le_refl _) _ |>.mono (by omega)) (by simp; omega)) (hrow.low ((HB.out.alloc (by omega) _)) (by simp; omega))).mono ?_
          rintro e w1 ⟨rfl, hb⟩
          have HB1 : Hid (Below wr.heap.size wr w1) := bt (ba (Below.refl _ _) _) hb
          have hsz1 : wr.heap.size < w1.heap.size := by have := hb.size; simp at this; omega
          have HK1 : Hid _ := bk HB1.out HK.out
          have HK2 : Hid _ := bk HB1.out HK0.out
          have HO1 : Hid _ := own_below HO.out HB1.out
          clear hb
          go_wp2_with (at_builtin; go_loud (refine append_value rfl _ _ rfl (W.heap.size + 2) _ _ _ rfl (World.ownsRow.alloc HO1.out _) ⟨w1.heap.size, 0, none⟩ 1 [.int .i64 (eval ltB row x).f0, .int .i64 (eval ltB row x).f1, .string (eval ltB row x).f2] rfl rfl (cells_at (heap_alloc_new _ _)) (by simp [Value.oneCell']) (by omega) (by simp; omega) ?_); intro v' w2 hown' hgrow)
          go_roundg (l.length - (kk + 1))
          case measure => omega
          case rel =>
            have hO2 := World.ownsRow.alloc HO1.out (.cells #[.int .i64 (eval ltB row x).f0, .int .i64 (eval ltB row x).f1, .string (eval ltB row x).f2] 23)
            refine ⟨kk + 1, by omega, by omega, by go_num, own_grown (ba (bt HB.out HB1.out) _) (by simp; omega) hO2 (by omega) hgrow, grown_block hO2 hgrow (alloc_lt HK2.out) (by omega), grown_block hO2 hgrow (alloc_lt HK1.out) (by omega), _, hown', ?_⟩
            rw [kinds_take_sc HX.out, List.map_append]; exact RowL.append (R := vaR) (x := eval ltB row x) rfl rfl HR.out
        · have : kk = l.length := by omega
          subst this
          have hR : RowL vaR 3 (l.map (eval ltB row)) xs := by have := HR.out; rwa [List.take_length] at this
          obtain ⟨A5, c5, rfl, hc5, hI⟩ := own_row (l := l.map (eval ltB row)) (by rw [List.length_map]; exact HO.out) hR
          rw [List.length_map] at hc5 ⊢
          have qc0 := blk_cell HK0.out 0 rfl
          have qc1 := blk_cell HK0.out 1 rfl
          have qc2 := blk_cell HK0.out 2 rfl
          have qc3 := blk_cell HK0.out 3 rfl
          have qc4 := blk_cell HK0.out 4 rfl
          have qc5 := blk_cell HK0.out 5 rfl
          have qc6 := blk_cell HK0.out 6 rfl
          have HI : Hid _ := hI
          clear HO HR hR hlt hg hI
          go_wp2_with fail
          have hop := operate_c n hn (l.map (eval ltB row)) A5 c5 wr (by rw [List.length_map]; omega) (VaRow.move HI.out fun b hb => ⟨hb.2, rfl⟩)
          rw [List.length_map] at hop
          refine hop.mono ?_
          rintro e w1 ⟨rfl, hb⟩
          have HB1 : Hid _ := hb
          have HK1 : Hid _ := bk HB1.out HK.out
          obtain ⟨r0, r1, r2, r3, r4, r5⟩ := cells3 HK1.out
          clear hb hop
          go_wp2_with fail
          rw [set3 HK1.out]
          refine bodyPost_ret (ret1 Tryz.results58 rfl (setRow_heap _ _ _ _ _ _ HK1.out) Tryz.isAgg23 Tryz.sizeOf23) rfl ⟨?_, bsr (bt HB.out HB1.out) (by omega) _⟩
          simp only [eval, if_neg HN.out.1, if_neg HN.out.2, evals_map]
set_option maxHeartbeats 800000 in
theorem Eval_c (x : Sc) (A : Option Addr) (c : Nat) (row : List Va) (R : Option Addr) (cr : Nat) (w : World) (hW : scW x) (hc : x.f4.length ≤ c) (hr : ScRow (· < w.heap.size) w A x.f4) (hrow : VaRow (· < w.heap.size) w R row) :
    Calls Tryz.prog 21 #[scV x A c, .slice R row.length cr] w fun e w' => e = .returned (vaV (Eval ltB row x)) ∧ Below w.heap.size w w' := by
  have hlr := hrow.1
  have hlx := hr.1
  have HE : Hid _ := eval_c row x
  go_enter Tryz.func21, Tryz.ntmps21
  go_wp2_with fail
  refine (valid_c x A c _ hW hc (hr.low ((Below.refl _ _).alloc (Nat.le_refl _) _ |>.alloc (by simp) _) (by simp; omega))).mono ?_
  rintro e w1 ⟨rfl, hb⟩
  have HB : Hid (Below w.heap.size w w1) := bt (ba (ba (Below.refl _ _) _) _) hb
  have hblk := bk hb (n := w.heap.size) (alloc_lt (alloc_at rfl))
  have HK : Hid _ := bk hb (n := w.heap.size + 1) (alloc_at (by simp))
  have hlt1 := heap_lt HK.out
  have qc0 := blk_cell hblk 0 rfl
  have qc1 := blk_cell hblk 1 rfl
  have qc2 := blk_cell hblk 2 rfl
  have qc3 := blk_cell hblk 3 rfl
  have qc4 := blk_cell hblk 4 rfl
  have qc5 := blk_cell hblk 5 rfl
  have qc6 := blk_cell hblk 6 rfl
  clear hb hblk
  obtain ⟨r0, r1, r2, r3, r4, r5⟩ := cells3 HK.out
  cases hv : valid x with
  | false =>
    have HV : Hid _ := hv
    clear hv
    go_wp2_with fail
    rw [set3 HK.out]
    refine bodyPost_ret (ret1 Tryz.results21 rfl (setRow_heap _ _ _ _ _ _ HK.out) Tryz.isAgg23 Tryz.sizeOf23) rfl ⟨?_, bsr HB.out (by omega) _⟩
    simp only [Eval, HV.out]; rfl
  | true =>
    have HV : Hid _ := hv
    have hok : okT x = true := by unfold valid at hv; simp at hv; exact hv.2
    have HOK : Hid _ := hok
    clear hv hok
    go_wp2_with fail
    refine (HE.out _ A c R cr HOK.out hc (hr.low HB.out HB.out.size) (hrow.low HB.out HB.out.size)).mono ?_
    rintro e w2 ⟨rfl, hb2⟩
    have HB2 : Hid _ := hb2
    have HK2 : Hid _ := bk hb2 HK.out
    clear hb2
    obtain ⟨s0, s1, s2, s3, s4, s5⟩ := cells3 HK2.out
    go_wp2_with fail
    rw [set3 HK2.out]
    refine bodyPost_ret (ret1 Tryz.results21 rfl (setRow_heap _ _ _ _ _ _ HK2.out) Tryz.isAgg23 Tryz.sizeOf23) rfl ⟨?_, bsr (bt HB.out HB2.out) (by omega) _⟩
    simp only [Eval, HV.out, if_true]
theorem va_eq (a b : Va) : (decide (a.f0 = b.f0) && (decide (a.f1 = b.f1) && decide (a.f2 = b.f2))) = decide (a = b) := by
  cases a; cases b; rw [Bool.eq_iff_iff]; simp
def Holds (row : List Va) (x : Sc) : Bool := decide (Eval ltB row x = tr true)
set_option maxHeartbeats 800000 in
theorem Holds_c (x : Sc) (A : Option Addr) (c : Nat) (row : List Va) (R : Option Addr) (cr : Nat) (w : World) (hW : scW x) (hc : x.f4.length ≤ c) (hr : ScRow (· < w.heap.size) w A x.f4) (hrow : VaRow (· < w.heap.size) w R row) :
    Calls Tryz.prog 30 #[scV x A c, .slice R row.length cr] w fun e w' => e = .returned (.bool (Holds row x)) ∧ Below w.heap.size w w' := by
  have hlr := hrow.1
  have hlx := hr.1
  go_enter Tryz.func30, Tryz.ntmps30
  go_wp2_with fail
  refine (Eval_c x A c row R cr _ hW hc (hr.low ((Below.refl _ _).alloc (Nat.le_refl _) _) (by simp)) (hrow.low ((Below.refl _ _).alloc (Nat.le_refl _) _) (by simp))).mono ?_
  rintro e w1 ⟨rfl, hb⟩
  have HB : Hid (Below w.heap.size w w1) := bt (ba (Below.refl _ _) _) hb
  clear hb
  go_wp2_with fail
  refine (truth_c _ _).mono ?_
  rintro e w2 ⟨rfl, hb⟩
  have HB2 : Hid (Below w.heap.size w w2) := bt HB.out hb
  clear hb
  go_wp2_with fail
  all_goals go_ret
  all_goals refine ⟨ret_bool ?_, HB2.out⟩
  all_goals (unfold Holds; rw [← va_eq]; simp_all [tl_inj])
end Go.Proofs.YtemedepjmnncbaaGreatDoor
