import Derived.Test.YtemedepjmnncbaaGreatDoorA8
import Derived.Test.YtemedepjmnncbaaGreatDoorAp
namespace Go.Proofs.YtemedepjmnncbaaGreatDoor
set_option linter.unusedVariables false
set_option linter.unusedSimpArgs false
open Go.RowKit Go.Shelf Pu

theorem ApV.fn {S : Nat → Prop} {w : World} {o : Nat} {v : Value} (h : ApV S w o v) : ∃ g lb, v = .func (.func g) #[] lb ∧ (∀ args w, (callFunc g args).run Tryz.prog w = .ok (.enter g args) w) ∧
    ∀ (a b : Va), a.f2.size ≤ 255 → b.f2.size ≤ 255 → ∀ W, (∀ b, S b → W.heap[b]? = w.heap[b]?) → Calls Tryz.prog g (#[vaV a, vaV b] ++ lb) W fun e w' => e = .returned (vaV (app ltB o a b)) ∧ Below W.heap.size W w' := by
  unfold ApV at h
  rcases h with ⟨rfl, rfl⟩ | ⟨rfl, rfl⟩ | ⟨rfl, rfl⟩ | ⟨rfl, rfl⟩ | ⟨rfl, rfl⟩ | ⟨rfl, rfl⟩ | ⟨rfl, rfl⟩ | ⟨rfl, rfl⟩ | ⟨B, g, rfl, hS, hb, h⟩
  · exact ⟨_, _, rfl, enters_of Tryz.func104 (by kernel_rfl) rfl, fun a b _ _ W _ => op1_c a b W⟩
  · exact ⟨_, _, rfl, enters_of Tryz.func105 (by kernel_rfl) rfl, fun a b _ _ W _ => op2_c a b W⟩
  · exact ⟨_, _, rfl, enters_of Tryz.func106 (by kernel_rfl) rfl, fun a b _ _ W _ => op3_c a b W⟩
  · exact ⟨_, _, rfl, enters_of Tryz.func107 (by kernel_rfl) rfl, fun a b _ _ W _ => op4_c a b W⟩
  · exact ⟨_, _, rfl, enters_of Tryz.func108 (by kernel_rfl) rfl, fun a b ha hb W _ => op5_c a b W ha hb⟩
  · exact ⟨_, _, rfl, enters_of Tryz.func116 (by kernel_rfl) rfl, fun a b _ _ W _ => op12_c a b W⟩
  · exact ⟨_, _, rfl, enters_of Tryz.func117 (by kernel_rfl) rfl, fun a b _ _ W _ => op13_c a b W⟩
  · exact ⟨_, _, rfl, enters_of Tryz.func118 (by kernel_rfl) rfl, fun a b _ _ W _ => op14_c a b W⟩
  · refine ⟨_, _, rfl, enters_of Tryz.func135 (by kernel_rfl) rfl, fun a b _ _ W hW => ?_⟩
    have hB := (hW B hS).trans hb
    rcases h with ⟨rfl, rfl⟩ | ⟨rfl, rfl⟩ | ⟨rfl, rfl⟩ | ⟨rfl, rfl⟩ | ⟨rfl, rfl⟩ | ⟨rfl, rfl⟩
    · exact comparison1_c a b B _ _ W (enters_of Tryz.func110 (by kernel_rfl) rfl) hB fun c W => cmp6_c c W
    · exact comparison1_c a b B _ _ W (enters_of Tryz.func111 (by kernel_rfl) rfl) hB fun c W => cmp7_c c W
    · exact comparison1_c a b B _ _ W (enters_of Tryz.func112 (by kernel_rfl) rfl) hB fun c W => cmp8_c c W
    · exact comparison1_c a b B _ _ W (enters_of Tryz.func113 (by kernel_rfl) rfl) hB fun c W => cmp9_c c W
    · exact comparison1_c a b B _ _ W (enters_of Tryz.func114 (by kernel_rfl) rfl) hB fun c W => cmp10_c c W
    · exact comparison1_c a b B _ _ W (enters_of Tryz.func115 (by kernel_rfl) rfl) hB fun c W => cmp11_c c W

/-! Rows of values. -/
abbrev VaRow (S : Nat → Prop) (w : World) (A : Option Addr) (l : List Va) : Prop := Row vaR 3 S w A l
theorem VaRow.get {S : Nat → Prop} {w : World} {A : Option Addr} {l : List Va} (h : VaRow S w A l) {i : Nat} {x : Va} (hx : l[i]? = some x) :
    ∃ b o, A = some ⟨b, o, none⟩ ∧ S b ∧ w.cell? ⟨b, o + i * 3, none⟩ = some (.int .i64 x.f0) ∧ w.cell? ⟨b, o + i * 3 + 1, none⟩ = some (.int .i64 x.f1) ∧ w.cell? ⟨b, o + i * 3 + 2, none⟩ = some (.string x.f2) := by
  obtain ⟨b, o, cs, e, hb, h1, h2⟩ := Row.get h hx
  rw [h1] at h2
  exact ⟨b, o, e, hb, h2 0 _ rfl, h2 1 _ rfl, h2 2 _ rfl⟩
theorem VaRow.move {S S' : Nat → Prop} {w w' : World} {A : Option Addr} {l : List Va} (h : VaRow S w A l) (hS : ∀ b, S b → S' b ∧ w'.heap[b]? = w.heap[b]?) : VaRow S' w' A l := Row.move h (fun _ _ h => h) hS
theorem VaRow.below {B : Nat} {w w' : World} {A : Option Addr} {l : List Va} (h : VaRow (· < B) w A l) (hb : Below B w w') : VaRow (· < B) w' A l := h.move fun b hB => ⟨hB, hb.block b hB⟩
theorem app_vr_size {v : Va} (h : vvalid v = true) : v.f2.size ≤ 255 := by
  unfold vvalid at h; split at h
  · simp at h; rw [h]; decide
  · split at h
    · simp at h; omega
    · split at h
      · simp at h; rw [h.2]; decide
      · cases h
theorem operate_bad {o : Int} {l : List Va} {x : Va} {k : Nat} (hx : l[k]? = some x) (h : vvalid x = false) : operate ltB o l = vz := by
  unfold operate
  have : l.all vvalid = false := by
    rw [List.all_eq_false]; exact ⟨x, List.mem_of_getElem? hx, by simp [h]⟩
  simp [this]
theorem operate_no {o : Int} {l : List Va} (h : (opRes o (l.map (·.f0))).isSome = false) : operate ltB o l = vz := by
  unfold operate; simp [h]
theorem operate_yes {o : Int} {l : List Va} (hv : l.all vvalid = true) (h : (opRes o (l.map (·.f0))).isSome = true) : operate ltB o l = app ltB o (l.headD vz) (l.getLastD vz) := by
  unfold operate; simp [h, hv]
theorem accB_op {n : Nat} (hn : n < 14) (ks : List Int) : accB (opnd n) (ar (n : Int)) ks = (opRes (n : Int) ks).isSome :=
  accB_opRes (by omega) (by omega) _ (by unfold opnd; repeat' split <;> first | rfl | omega) ks
theorem opRes_form {n : Nat} (hn : n < 14) {l : List Va} (h : (opRes (n : Int) (l.map (·.f0))).isSome = true) : (∃ a, l = [a]) ∨ ∃ a b, l = [a, b] := by
  rw [← accB_opRes (by omega) (by omega) _ rfl, accB] at h
  simp at h
  have h1 := h.1
  have : ar (n : Int) = 1 ∨ ar (n : Int) = 2 := by unfold ar; split <;> simp
  match l, h1 with
  | [], h1 => simp at h1; omega
  | [a], _ => exact .inl ⟨a, rfl⟩
  | [a, b], _ => exact .inr ⟨a, b, rfl⟩
  | a :: b :: c :: l, h1 => simp at h1; omega
theorem kinds_take {l : List Va} {kk : Nat} {x : Va} (hx : l[kk]? = some x) : l.take (kk + 1) = l.take kk ++ [x] := by
  obtain ⟨hk, rfl⟩ := List.getElem?_eq_some_iff.1 hx
  exact (List.take_append_getElem hk).symm
set_option maxRecDepth 100000 in
set_option maxHeartbeats 4000000 in
theorem operate_c (n : Nat) (hn : n < 14) (l : List Va) (A : Option Addr) (c : Nat) (w : World) (hl : l.length ≤ 1000) (hr : VaRow (· < w.heap.size) w A l) : Calls Tryz.prog 92 #[.int .i64 (n : Int), .slice A l.length c] w fun e w' =>
    e = .returned (vaV (operate ltB n l)) ∧ Below w.heap.size w w' := by
  go_enter Tryz.func92, Tryz.ntmps92
  go_wp2_with fail
  go_loopg [5, 11] l.length (fun gg s5 s11 wr => ∃ kk : Nat, kk ≤ l.length ∧ l.length - kk ≤ gg ∧ s11 = .int .i64 kk ∧ Hid ((l.take kk).all vvalid = true) ∧ Hid (Below w.heap.size w wr) ∧
    Hid (wr.heap[w.heap.size]? = some (Obj.cells #[.int .i64 0, .int .i64 0, .string ⟨#[]⟩] 23 (0, 0))) ∧ ∃ xs, Hid (wr.ownsRow (w.heap.size + 1) 3 1 s5 kk xs) ∧ Hid (RowL (intR .i64) 1 ((l.take kk).map (·.f0)) xs))
  case atStart => exact ⟨0, Nat.zero_le _, by omega, rfl, by simp [Hid], ba (Below.refl _ _) _, alloc_at rfl, [], World.ownsRow_nil _ _ _ _, by simp [RowL, Hid]⟩
  case round =>
    obtain ⟨kk, hkk, hg, rfl, HV, HB, HK, xs, HO, HR⟩ := hrel
    by_cases hlt : kk < l.length
    · have hx := List.getElem?_eq_getElem hlt
      obtain ⟨b, o, rfl, hbS, e0, e1, e2⟩ := (hr.below HB.out).get hx
      have HX : Hid (l[kk]? = some l[kk]) := hx
      clear hx
      generalize l[kk] = x at *
      have hsz : w.heap.size < wr.heap.size := heap_lt HK.out
      go_wp2_with fail
      refine (vvalid_c x _).mono ?_
      rintro e w1 ⟨rfl, hb⟩
      have HB1 : Hid (Below wr.heap.size wr w1) := bt (ba (Below.refl _ _) _) hb
      have hblk := bk hb (n := wr.heap.size) (alloc_at rfl)
      have hlt1 := heap_lt hblk
      have qc0 := blk_cell hblk 0 rfl
      have qf0 := blk_free hblk 0
      have qc1 := blk_cell hblk 1 rfl
      have qf1 := blk_free hblk 1
      have qc2 := blk_cell hblk 2 rfl
      have qf2 := blk_free hblk 2
      have HK1 : Hid _ := bk HB1.out HK.out
      have HO1 : Hid _ := own_below HO.out HB1.out
      cases hvx : vvalid x with
      | false =>
        have HV1 : Hid (vvalid x = false) := hvx
        clear hvx hblk hb
        obtain ⟨r0, r1, r2, r3, r4, r5⟩ := cells3 HK1.out
        go_wp2_with fail
        rw [set3 HK1.out]
        refine bodyPost_ret (ret1 Tryz.results92 rfl (setRow_heap _ _ _ _ _ _ HK1.out) Tryz.isAgg23 Tryz.sizeOf23) rfl ⟨?_, bsr (bt HB.out HB1.out) (Nat.le_refl _) _⟩
        rw [operate_bad HX.out HV1.out]; rfl
      | true =>
        have HV1 : Hid (vvalid x = true) := hvx
        clear hvx hblk hb
        go_wp2_with (at_builtin; go_loud (refine append_int rfl _ _ rfl (w.heap.size + 1) _ _ _ rfl (World.ownsRow.alloc HO1.out _) ⟨w1.heap.size, 0, none⟩ 1 [.int .i64 x.f0] rfl rfl (cells_at (heap_alloc_new _ _)) (by simp [Value.oneCell']) (by omega) (by simp; omega) ?_); intro v' w2 hown' hgrow)
        go_roundg (l.length - (kk + 1))
        case measure => omega
        case rel =>
          have hO2 := World.ownsRow.alloc HO1.out (.cells #[.int .i64 x.f0] 3)
          refine ⟨kk + 1, by omega, by omega, by go_num, ?_, own_grown (ba (bt HB.out HB1.out) _) (by simp; omega) hO2 (by omega) hgrow, grown_block hO2 hgrow (alloc_lt HK1.out) (by omega), _, hown', ?_⟩
          · rw [kinds_take HX.out]; simp only [List.all_append, HV.out]; simp [HV1.out, Hid]
          · rw [kinds_take HX.out, List.map_append]; exact RowL.append (R := intR .i64) (x := x.f0) rfl rfl HR.out
    · have : kk = l.length := by omega
      subst this
      have hsz : w.heap.size < wr.heap.size := heap_lt HK.out
      have HV2 : Hid (l.all vvalid = true) := by have := HV.out; rwa [List.take_length] at this
      have hR : RowL (intR .i64) 1 (l.map (·.f0)) xs := by have := HR.out; rwa [List.take_length] at this
      obtain ⟨A5, c5, rfl, hc5, hI⟩ := own_row (l := l.map (·.f0)) (by rw [List.length_map]; exact HO.out) hR
      rw [List.length_map] at hc5 ⊢
      have h0' : (0 : Int) ≤ (n : Int) := by omega
      have h1' : (n : Int) < 14 := by omega
      have hacc : Hid (∀ (fv : Value) W, Below wr.heap.size wr W → Calls Tryz.prog 87 #[.agg #[.int .i64 (opnd n), .int .i64 (ar (n : Int)), .int .i64 (ores n), .string (symB n), fv], .slice A5 l.length c5] W fun e w' => e = .returned (.bool (opRes (n : Int) (l.map (·.f0))).isSome) ∧ Below W.heap.size W w') := by
        intro fv W hW
        have h := accepts_c (opnd n) (ar (n : Int)) (ores n) (symB n) fv A5 c5 (l.map (·.f0)) W (hI.move (fun _ _ h => h) fun b hb => ⟨by have := hW.size; omega, hW.block b hb.2⟩)
        rwa [List.length_map, accB_op hn] at h
      clear HV HR HO hR hlt hg hI
      go_wp2_with fail
      refine (operators_c _).mono ?_
      rintro e w1 ⟨g, rfl, hg1, hg2, hO, hb⟩
      obtain ⟨v, hv, k0, k1, k2, k3, k4⟩ := hO n hn
      obtain ⟨fg, lb, rfl, ent, hfn⟩ := hv.fn
      have HF : Hid _ := hfn
      have HB1 : Hid (Below wr.heap.size wr w1) := hb
      have hsz1 : wr.heap.size ≤ w1.heap.size := hb.size
      clear hfn hb hv hO hg1 hg2
      go_wp2_with fail
      refine (hacc.out _ _ (ba HB1.out _)).mono ?_
      rintro e w2 ⟨rfl, hb2⟩
      have hblk := bk hb2 (n := w1.heap.size) (alloc_at rfl)
      have hsz2 := heap_lt hblk
      have HB2 : Hid (Below wr.heap.size wr w2) := bt (ba HB1.out _) hb2
      have HB3 : Hid (Below w1.heap.size w1 w2) := bt (ba (Below.refl _ _) _) hb2
      have HK2 : Hid _ := bk HB2.out HK.out
      have qc0 := blk_cell hblk 0 rfl
      have qf0 := blk_free hblk 0
      have qc1 := blk_cell hblk 1 rfl
      have qf1 := blk_free hblk 1
      have qc2 := blk_cell hblk 2 rfl
      have qf2 := blk_free hblk 2
      have qc3 := blk_cell hblk 3 rfl
      have qf3 := blk_free hblk 3
      have qc4 := blk_cell hblk 4 rfl
      have qf4 := blk_free hblk 4
      clear hblk hb2
      cases hop : (opRes (n : Int) (l.map (·.f0))).isSome with
      | false =>
        have HOp : Hid _ := hop
        clear hop
        obtain ⟨r0, r1, r2, r3, r4, r5⟩ := cells3 HK2.out
        go_wp2_with fail
        rw [set3 HK2.out]
        refine bodyPost_ret (ret1 Tryz.results92 rfl (setRow_heap _ _ _ _ _ _ HK2.out) Tryz.isAgg23 Tryz.sizeOf23) rfl ⟨?_, bsr (bt HB.out HB2.out) (Nat.le_refl _) _⟩
        rw [operate_no HOp.out]; rfl
      | true =>
        have HOp : Hid _ := hop
        clear hop
        obtain ⟨r0, r1, r2, r3, r4, r5⟩ := cells3 HK2.out
        have hr2 := hr.below (bt HB.out HB2.out)
        rcases opRes_form hn HOp.out with ⟨a, rfl⟩ | ⟨a, b, rfl⟩
        · obtain ⟨b0, o0, rfl, hbS, e0, e1, e2⟩ := hr2.get (i := 0) rfl
          have ha : a.f2.size ≤ 255 := app_vr_size (by have := HV2.out; simpa using this)
          simp only [Nat.zero_mul, Nat.add_zero] at e0 e1 e2
          go_wp2_with fail
          have wz : IntKind.i64.wrap 0 = 0 := by decide
          have wo : IntKind.i64.wrap 1 = 1 := by decide
          refine region_still 11 (by kernel_rfl) (by kernel_rfl) ?_
          simp only [List.take_succ_cons, List.take_zero, List.drop_succ_cons, List.drop_zero]
          repeat still_step
          refine wpStill_nil ?_
          go_wp2_with fail
          refine (HF.out a a ha ha _ ?_).mono ?_
          · intro b hb; exact HB3.out.block b hb.2
          rintro e w3 ⟨rfl, hb3⟩
          have HB4 : Hid (Below w2.heap.size w2 w3) := bt (bd (Below.refl _ _)) hb3
          have HK3 : Hid _ := bk HB4.out HK2.out
          obtain ⟨r0, r1, r2, r3, r4, r5⟩ := cells3 HK3.out
          clear hb3
          go_wp2_with fail
          rw [set3 HK3.out]
          refine bodyPost_ret (ret1 Tryz.results92 rfl (setRow_heap _ _ _ _ _ _ HK3.out) Tryz.isAgg23 Tryz.sizeOf23) rfl ⟨?_, bsr (bt (bt HB.out HB2.out) HB4.out) (Nat.le_refl _) _⟩
          rw [operate_yes HV2.out HOp.out]; rfl
        · obtain ⟨b0, o0, rfl, hbS, e0, e1, e2⟩ := hr2.get (i := 0) rfl
          obtain ⟨b1, o1, hA, -, f0, f1, f2⟩ := hr2.get (i := 1) rfl
          cases hA
          simp only [Nat.zero_mul, Nat.add_zero] at e0 e1 e2
          simp only [Nat.one_mul] at f0 f1 f2
          have hab := HV2.out
          simp at hab
          have ha : a.f2.size ≤ 255 := app_vr_size hab.1
          have hb : b.f2.size ≤ 255 := app_vr_size hab.2
          clear hab
          go_wp2_with fail
          have wz : IntKind.i64.wrap 0 = 0 := by decide
          have wo : IntKind.i64.wrap 1 = 1 := by decide
          refine region_still 11 (by kernel_rfl) (by kernel_rfl) ?_
          simp only [List.take_succ_cons, List.take_zero, List.drop_succ_cons, List.drop_zero]
          repeat still_step
          refine wpStill_nil ?_
          go_wp2_with fail
          refine (HF.out a b ha hb _ ?_).mono ?_
          · intro b hb; exact HB3.out.block b hb.2
          rintro e w3 ⟨rfl, hb3⟩
          have HB4 : Hid (Below w2.heap.size w2 w3) := bt (bd (Below.refl _ _)) hb3
          have HK3 : Hid _ := bk HB4.out HK2.out
          obtain ⟨r0, r1, r2, r3, r4, r5⟩ := cells3 HK3.out
          clear hb3
          go_wp2_with fail
          rw [set3 HK3.out]
          refine bodyPost_ret (ret1 Tryz.results92 rfl (setRow_heap _ _ _ _ _ _ HK3.out) Tryz.isAgg23 Tryz.sizeOf23) rfl ⟨?_, bsr (bt (bt HB.out HB2.out) HB4.out) (Nat.le_refl _) _⟩
          rw [operate_yes HV2.out HOp.out]; rfl
end Go.Proofs.YtemedepjmnncbaaGreatDoor
