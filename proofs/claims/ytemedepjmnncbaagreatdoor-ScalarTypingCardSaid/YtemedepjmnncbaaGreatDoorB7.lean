import Derived.Test.YtemedepjmnncbaaGreatDoorB6
namespace Go.Proofs.YtemedepjmnncbaaGreatDoor
set_option linter.unusedVariables false
set_option linter.unusedSimpArgs false
open Go.RowKit Go.Shelf Pu
set_option maxRecDepth 100000 in
set_option maxHeartbeats 4000000 in
theorem rEqual_c (t : Sc) : EqC 19 t := by
  refine Sc.ind (P := EqC 19) ?_ t
  intro k0 c0 v0 o0 l ih b W A c B d hr hs
  obtain ⟨k1, c1, v1, o1, m⟩ := b
  have hl1 := hr.1
  have hl2 := hs.1
  have IH : Hid _ := ih
  clear ih
  obtain ⟨p0, q0, s0⟩ := v0
  obtain ⟨p1, q1, s1⟩ := v1
  by_cases h0 : k0 = k1
  · by_cases h1 : c0 = c1
    · by_cases h2 : p0 = p1
      · by_cases h3 : q0 = q1
        · by_cases h4 : s0 = s1
          · by_cases h5 : o0 = o1
            · by_cases h6 : l.length = m.length
              · subst h0 h1 h2 h3 h4 h5
                have g1 : ((l.length : Int) != (m.length : Int)) = false := by simp [h6]
                have HLM : Hid _ := h6
                clear h6
                go_enter Tryz.func19, Tryz.ntmps19
                go_wp2_with fail
                go_loopg [5] l.length (fun gg s5 wr => ∃ kk : Nat, kk ≤ l.length ∧ l.length - kk ≤ gg ∧ s5 = .int .i64 kk ∧ Hid (l.take kk = m.take kk) ∧ Hid (Below W.heap.size W wr) ∧
                  Hid (wr.heap[W.heap.size]? = some (Obj.cells #[.int .i64 k0, .int .i64 c0, .int .i64 p0, .int .i64 q0, .string s0, .int .i64 o0, .slice A l.length c] 26 (0, 0))) ∧
                  Hid (wr.heap[W.heap.size + 1]? = some (Obj.cells #[.int .i64 k0, .int .i64 c0, .int .i64 p0, .int .i64 q0, .string s0, .int .i64 o0, .slice B m.length d] 26 (0, 0))))
                case atStart => exact ⟨0, Nat.zero_le _, by omega, rfl, by simp [Hid], ba (ba (Below.refl _ _) _) _, alloc_lt (alloc_at rfl), alloc_at (by simp)⟩
                case round =>
                  obtain ⟨kk, hkk, hg, rfl, HT, HB, HK, HK2⟩ := hrel
                  have hz := HK.out
                  have zc0 := blk_cell hz 0 rfl
                  have zc1 := blk_cell hz 1 rfl
                  have zc2 := blk_cell hz 2 rfl
                  have zc3 := blk_cell hz 3 rfl
                  have zc4 := blk_cell hz 4 rfl
                  have zc5 := blk_cell hz 5 rfl
                  have zc6 := blk_cell hz 6 rfl
                  have hy := HK2.out
                  have yc0 := blk_cell hy 0 rfl
                  have yc1 := blk_cell hy 1 rfl
                  have yc2 := blk_cell hy 2 rfl
                  have yc3 := blk_cell hy 3 rfl
                  have yc4 := blk_cell hy 4 rfl
                  have yc5 := blk_cell hy 5 rfl
                  have yc6 := blk_cell hy 6 rfl
                  have hsz := heap_lt hy
                  clear hz hy
                  by_cases hlt : kk < l.length
                  · have hlt2 : kk < m.length := by have := HLM.out; omega
                    have hx := List.getElem?_eq_getElem hlt
                    have hy := List.getElem?_eq_getElem hlt2
                    obtain ⟨b1, o1, A1, cc1, rfl, hb1, hc1, hr1, e0, e1, e2, e3, e4, e5, e6⟩ := (hr.below HB.out).get hx
                    obtain ⟨b2, o2, A2, cc2, rfl, hb2, hc2, hr2, f0, f1, f2, f3, f4, f5, f6⟩ := (hs.below HB.out).get hy
                    have HX : Hid (l[kk]? = some l[kk]) := hx
                    have HY : Hid (m[kk]? = some m[kk]) := hy
                    have hEx := IH.out l[kk] (List.getElem_mem _)
                    clear hx hy
                    generalize l[kk] = x at *
                    generalize m[kk] = y at *
                    have HW : Hid (∀ (b : Sc) (W : World) (A : Option Addr) (c : Nat) (B : Option Addr) (d : Nat), ScRow (· < W.heap.size) W A x.f4 → ScRow (· < W.heap.size) W B b.f4 →
                      Calls Tryz.prog 19 #[scV x A c, scV b B d] W fun e W' => e = .returned (.bool (decide (x = b))) ∧ Below W.heap.size W W') := hEx
                    clear hEx
                    go_wp2_with fail
                    refine region_still 10 (by kernel_rfl) (by kernel_rfl) ?_
                    simp only [List.take_succ_cons, List.take_zero, List.drop_succ_cons, List.drop_zero]
                    repeat still_step
                    refine wpStill_nil ?_
                    go_wp2_with fail
                    refine (HW.out y _ A1 cc1 A2 cc2 (ScRow.lowE hr1 (bd (Below.refl _ _)) (by simp [World.drew_heap]; omega)) (ScRow.lowE hr2 (bd (Below.refl _ _)) (by simp [World.drew_heap]; omega))).mono ?_
                    rintro e w1 ⟨rfl, hb⟩
                    have HB1 : Hid (Below wr.heap.size wr w1) := bt (bd (Below.refl _ _)) hb
                    clear hb
                    by_cases hxy : x = y
                    · have hd : decide (x = y) = true := by simp [hxy]
                      have HXY : Hid (x = y) := hxy
                      clear hxy
                      go_wp2_with fail
                      go_roundg (l.length - (kk + 1))
                      case measure => omega
                      case rel => exact ⟨kk + 1, by omega, by omega, by go_num, (take_eq HX.out HY.out HT.out).1 HXY.out, bt HB.out HB1.out, bk HB1.out HK.out, bk HB1.out HK2.out⟩
                    · have hd : decide (x = y) = false := by simp [hxy]
                      have HXY : Hid (x ≠ y) := hxy
                      clear hxy
                      go_wp2_with fail
                      go_ret
                      refine ⟨ret_bool ?_, bt HB.out HB1.out⟩
                      rw [eq_comm, decide_eq_false_iff_not]; intro e; injection e with e0 e1 e2 e3 e4
                      exact (take_eq HX.out HY.out HT.out).2 HXY.out e4
                  · have : kk = l.length := by omega
                    subst this
                    have HF : Hid (l = m) := by have h := HT.out; rw [HLM.out, List.take_length, ← HLM.out, List.take_length] at h; exact h
                    clear hlt hg
                    go_wp2_with fail
                    go_ret
                    exact ⟨ret_bool (by simp [HF.out]), HB.out⟩
              · subst h0 h1 h2 h3 h4 h5
                have H : Hid _ := h6
                have g1 : ((l.length : Int) != (m.length : Int)) = true := by simp; omega
                go_enter Tryz.func19, Tryz.ntmps19
                go_wp2_with fail
                all_goals go_ret
                all_goals exact ⟨ret_bool (by first | rfl | (rw [eq_comm, decide_eq_false_iff_not]; intro e; exact H.out (congrArg List.length e))), ba (ba (Below.refl _ _) _) _⟩
            · subst h0 h1 h2 h3 h4
              have H : Hid _ := h5
              have g1 : (o0 == o1) = false := by simp [h5]
              have g2 : (o0 != o1) = true := by simp [h5]
              go_enter Tryz.func19, Tryz.ntmps19
              go_wp2_with fail
              all_goals go_ret
              all_goals exact ⟨ret_bool (by first | rfl | (rw [eq_comm, decide_eq_false_iff_not]; intro e; injection e with e0 e1 e2 e3 e4; exact H.out e3)), ba (ba (Below.refl _ _) _) _⟩
          · subst h0 h1 h2 h3
            have H : Hid _ := h4
            have g1 : ¬ s0.toList = s1.toList := fun e => h4 (tl_inj.1 e)
            have g2 : (s0.toList == s1.toList) = false := by simp [g1]
            go_enter Tryz.func19, Tryz.ntmps19
            go_wp2_with fail
            all_goals go_ret
            all_goals exact ⟨ret_bool (by first | rfl | (rw [eq_comm, decide_eq_false_iff_not]; intro e; injection e with e0 e1 e2 e3 e4; injection e2 with _ _ e2; exact H.out e2)), ba (ba (Below.refl _ _) _) _⟩
        · subst h0 h1 h2
          have H : Hid _ := h3
          have g1 : (q0 == q1) = false := by simp [h3]
          have g2 : (q0 != q1) = true := by simp [h3]
          go_enter Tryz.func19, Tryz.ntmps19
          go_wp2_with fail
          all_goals go_ret
          all_goals exact ⟨ret_bool (by first | rfl | (rw [eq_comm, decide_eq_false_iff_not]; intro e; injection e with e0 e1 e2 e3 e4; injection e2 with _ e2 _; exact H.out e2)), ba (ba (Below.refl _ _) _) _⟩
      · subst h0 h1
        have H : Hid _ := h2
        have g1 : (p0 == p1) = false := by simp [h2]
        have g2 : (p0 != p1) = true := by simp [h2]
        go_enter Tryz.func19, Tryz.ntmps19
        go_wp2_with fail
        all_goals go_ret
        all_goals exact ⟨ret_bool (by first | rfl | (rw [eq_comm, decide_eq_false_iff_not]; intro e; injection e with e0 e1 e2 e3 e4; injection e2 with e2 _ _; exact H.out e2)), ba (ba (Below.refl _ _) _) _⟩
    · subst h0
      have H : Hid _ := h1
      have g1 : (c0 == c1) = false := by simp [h1]
      have g2 : (c0 != c1) = true := by simp [h1]
      go_enter Tryz.func19, Tryz.ntmps19
      go_wp2_with fail
      all_goals go_ret
      all_goals exact ⟨ret_bool (by first | rfl | (rw [eq_comm, decide_eq_false_iff_not]; intro e; injection e with e0 e1 e2 e3 e4; exact H.out e1)), ba (ba (Below.refl _ _) _) _⟩
  · have H : Hid _ := h0
    have g1 : (k0 == k1) = false := by simp [h0]
    have g2 : (k0 != k1) = true := by simp [h0]
    go_enter Tryz.func19, Tryz.ntmps19
    go_wp2_with fail
    all_goals go_ret
    all_goals exact ⟨ret_bool (by first | rfl | (rw [eq_comm, decide_eq_false_iff_not]; intro e; injection e with e0 e1 e2 e3 e4; exact H.out e0)), ba (ba (Below.refl _ _) _) _⟩
theorem opRes_pos {o t : Int} {ks : List Int} (h : opRes o ks = some t) : 0 ≤ t := by
  match ks with
  | [] => simp [opRes] at h
  | [a] =>
    simp only [opRes] at h
    split at h
    · injection h; omega
    · split at h
      · injection h; omega
      · cases h
  | [a, b] =>
    simp only [opRes] at h
    split at h
    · cases h
    · split at h
      · split at h
        · injection h; omega
        · cases h
      · split at h
        · split at h
          · injection h; omega
          · cases h
        · split at h
          · split at h
            · injection h; omega
            · cases h
          · split at h
            · split at h
              · injection h; omega
              · cases h
            · cases h
  | a :: b :: c :: l => simp [opRes] at h
theorem typ_pos {cs : List Co} {x : Sc} {t : Int} (hok : okT x = true) (h : typ cs x = some t) : 0 ≤ t := by
  obtain ⟨k, c, v, o, l⟩ := x
  by_cases h0 : k = 0
  · subst h0
    simp only [typ, if_pos rfl] at h
    injection h with h
    rw [okT_leaf (.inl rfl)] at hok
    simp [Pu.node] at hok
    have := (vvalid_kind hok.1).1
    omega
  by_cases h1 : k = 1
  · simp only [typ, if_neg h0, if_pos h1] at h
    split at h
    · injection h; omega
    · cases h
  · simp only [typ, if_neg h0, if_neg h1] at h
    cases hk : typs cs l with
    | none => rw [hk] at h; cases h
    | some ks => rw [hk] at h; exact opRes_pos h
theorem last_any {m : List Int} (h : m.Pairwise (· < ·)) {x n : Int} (hx : m[m.length - 1]? = some x) : m.any (fun i => decide (i ≥ n)) = decide (x ≥ n) := by
  obtain ⟨hl, rfl⟩ := List.getElem?_eq_some_iff.1 hx
  rw [Bool.eq_iff_iff, List.any_eq_true, decide_eq_true_iff]
  constructor
  · rintro ⟨y, hy, h2⟩
    obtain ⟨i, hi, rfl⟩ := List.mem_iff_getElem.1 hy
    have h3 := of_decide_eq_true h2
    by_cases e : i = m.length - 1
    · subst e; exact h3
    · have := List.pairwise_iff_getElem.1 h i (m.length - 1) hi hl (by omega); omega
  · intro h2; exact ⟨_, List.getElem_mem hl, by simp; exact h2⟩
set_option maxRecDepth 100000 in
set_option maxHeartbeats 4000000 in
theorem rType_c (cs : List Co) (x : Sc) (A : Option Addr) (c : Nat) (R : Option Addr) (cr : Nat) (w : World) (hc : x.f4.length ≤ c) (hr : ScRow (· < w.heap.size) w A x.f4) (hrow : CoRow (· < w.heap.size) w R cs) :
    Calls Tryz.prog 15 #[scV x A c, .slice R cs.length cr] w fun e w' => e = .returned (.tuple #[.int .i64 (TypeP cs x).1, .int .i64 (TypeP cs x).2]) ∧ Below w.heap.size w w' := by
  have hlr := hrow.1
  have hlx := hr.1
  have HT : Hid (∀ (W : World) (A : Option Addr) (c : Nat) (R : Option Addr) (cr : Nat), okT x = true → (∀ i ∈ refs x, i < (cs.length : Int)) → x.f4.length ≤ c → ScRow (· < W.heap.size) W A x.f4 → CoRow (· < W.heap.size) W R cs →
    Calls Tryz.prog 50 #[scV x A c, .slice R cs.length cr] W fun e W' => e = .returned (.int .i64 (rtyp cs x)) ∧ Below W.heap.size W W') := rtyped_c cs x
  have HCl : Hid (∀ (W : World) (A : Option Addr) (c : Nat), size x ≤ 1000 → x.f4.length ≤ c → ScRow (· < W.heap.size) W A x.f4 →
    Calls Tryz.prog 24 #[scV x A c] W fun e W' => (∃ A' c', e = .returned (.slice A' (rcols x).length c') ∧ (rcols x).length ≤ c' ∧ IntRow (· < W'.heap.size) W' A' (rcols x)) ∧ Below W.heap.size W W') := rColumns_c x
  go_enter Tryz.func15, Tryz.ntmps15
  go_wp2_with fail
  refine (rValid_c x A c _ hc (ScRow.lowE hr ((Below.refl _ _).alloc (Nat.le_refl _) _) (by simp))).mono ?_
  rintro e w1 ⟨rfl, hb⟩
  have HB : Hid (Below w.heap.size w w1) := bt (ba (Below.refl _ _) _) hb
  have HK : Hid _ := bk hb (n := w.heap.size) (alloc_at rfl)
  have hz := HK.out
  have zc0 := blk_cell hz 0 rfl
  have zc1 := blk_cell hz 1 rfl
  have zc2 := blk_cell hz 2 rfl
  have zc3 := blk_cell hz 3 rfl
  have zc4 := blk_cell hz 4 rfl
  have zc5 := blk_cell hz 5 rfl
  have zc6 := blk_cell hz 6 rfl
  clear hb hz
  cases hv : valid x with
  | false =>
    have HV : Hid _ := hv
    clear hv
    go_wp2_with fail
    go_ret2
    exact ⟨by rw [TypeP, HV.out]; rfl, HB.out⟩
  | true =>
    have HV : Hid _ := hv
    have HOK : Hid _ := valid_ok hv
    clear hv
    go_wp2_with fail
    refine (HCl.out _ A c (by have := HOK.out.2; omega) hc (ScRow.lowE hr HB.out HB.out.size)).mono ?_
    rintro e w2 ⟨⟨A2, c2, rfl, hc2, hr2⟩, hb⟩
    have HB2 : Hid (Below w.heap.size w w2) := bt HB.out hb
    have hz := bk hb HK.out
    clear hb zc0 zc1 zc2 zc3 zc4 zc5 zc6
    have zc0 := blk_cell hz 0 rfl
    have zc1 := blk_cell hz 1 rfl
    have zc2 := blk_cell hz 2 rfl
    have zc3 := blk_cell hz 3 rfl
    have zc4 := blk_cell hz 4 rfl
    have zc5 := blk_cell hz 5 rfl
    have zc6 := blk_cell hz 6 rfl
    clear hz
    have hml : (rcols x).length ≤ 256 := Nat.le_trans (rcols_len x) HOK.out.2
    have hlm := hr2.1
    have HAny : Hid ((rcols x).any (fun i => decide (i ≥ (cs.length : Int))) = (refs x).any (fun i => decide (i ≥ (cs.length : Int)))) := by rw [Hid, rcols_eq, any_cols]
    have HSo : Hid ((rcols x).Pairwise (· < ·)) := (rcols_both x).1
    generalize rcols x = m at *
    have HTy : Hid (((refs x).any fun i => decide (i ≥ (cs.length : Int))) = false → ∀ W, Below w.heap.size w W → Calls Tryz.prog 50 #[scV x A c, .slice R cs.length cr] W fun e W' => e = .returned (.int .i64 (resO (typ cs x))) ∧ Below W.heap.size W W') := by
      intro h W hW
      have h2 := HT.out W A c R cr HOK.out.1 (fun i hi => by have := List.any_eq_false.1 h i hi; simp at this; omega) hc (ScRow.lowE hr hW hW.size) (CoRow.low hrow hW hW.size)
      rwa [rtyp_eq cs x HOK.out.1] at h2
    have HFin : Hid (((refs x).any fun i => decide (i ≥ (cs.length : Int))) = false → TypeP cs x = if resO (typ cs x) < 0 then (0, 7) else (resO (typ cs x), 0)) := by
      intro h
      rw [TypeP, HV.out, if_pos rfl, if_neg (by rw [h]; decide)]
      cases ht : typ cs x with
      | none => rfl
      | some t => rw [if_neg (by have := typ_pos HOK.out.1 ht; show ¬ t < 0; omega)]; rfl
    clear HT HCl
    generalize resO (typ cs x) = ty at *
    by_cases hm : m.length = 0
    · have hm' : ¬ (0 : Int) < (m.length : Int) := by omega
      have hm0 : m = [] := List.length_eq_zero_iff.1 hm
      have hany : ((refs x).any fun i => decide (i ≥ (cs.length : Int))) = false := by rw [← HAny.out, hm0]; rfl
      have HAn : Hid _ := hany
      have HFin2 : Hid _ := HFin.out hany
      clear hm hm0 hany
      go_wp2_with fail
      refine (HTy.out HAn.out w2 HB2.out).mono ?_
      rintro e w3 ⟨rfl, hb⟩
      have HB3 : Hid (Below w.heap.size w w3) := bt HB2.out hb
      clear hb
      by_cases ht : ty < 0
      · have H : Hid _ := ht
        go_wp2_with fail
        go_ret2
        exact ⟨by rw [HFin2.out, if_pos H.out]; first | done | rfl, HB3.out⟩
      · have H : Hid _ := ht
        go_wp2_with fail
        go_ret2
        exact ⟨by rw [HFin2.out, if_neg H.out]; first | done | rfl, HB3.out⟩
    · have hm' : (0 : Int) < (m.length : Int) := by omega
      have hlt : m.length - 1 < m.length := by omega
      have hx := List.getElem?_eq_getElem hlt
      obtain ⟨b, o, rfl, hbS, e0⟩ := IntRow.get hr2 hx
      have HX : Hid _ := hx
      clear hx
      generalize m[m.length - 1] = y at *
      have hlast := last_any HSo.out (n := (cs.length : Int)) HX.out
      have hw1 : IntKind.i64.wrap ((m.length : Int) - 1) = ((m.length - 1 : Nat) : Int) := by simp [IntKind.wrap, IntKind.bits, IntKind.signed]; omega
      have hi1 : ((m.length - 1 : Nat) : Int) < (m.length : Int) := by omega
      by_cases hy : y ≥ (cs.length : Int)
      · have hy' : (cs.length : Int) ≤ y := hy
        have hany : ((refs x).any fun i => decide (i ≥ (cs.length : Int))) = true := by rw [← HAny.out, hlast]; simpa using hy
        have HAn : Hid _ := hany
        clear hany hlast hm
        go_wp2_with fail
        go_ret2
        exact ⟨by rw [TypeP, HV.out, if_pos rfl, if_pos HAn.out]; first | done | rfl, HB2.out⟩
      · have hy' : ¬ (cs.length : Int) ≤ y := hy
        have hany : ((refs x).any fun i => decide (i ≥ (cs.length : Int))) = false := by rw [← HAny.out, hlast]; simpa using hy
        have HAn : Hid _ := hany
        have HFin2 : Hid _ := HFin.out hany
        clear hany hlast hm
        go_wp2_with fail
        refine (HTy.out HAn.out w2 HB2.out).mono ?_
        rintro e w3 ⟨rfl, hb⟩
        have HB3 : Hid (Below w.heap.size w w3) := bt HB2.out hb
        clear hb
        by_cases ht : ty < 0
        · have H : Hid _ := ht
          go_wp2_with fail
          go_ret2
          exact ⟨by rw [HFin2.out, if_pos H.out]; first | done | rfl, HB3.out⟩
        · have H : Hid _ := ht
          go_wp2_with fail
          go_ret2
          exact ⟨by rw [HFin2.out, if_neg H.out]; first | done | rfl, HB3.out⟩
end Go.Proofs.YtemedepjmnncbaaGreatDoor
