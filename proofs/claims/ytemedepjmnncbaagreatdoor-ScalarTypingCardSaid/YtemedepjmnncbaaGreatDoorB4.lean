import Derived.Test.YtemedepjmnncbaaGreatDoorB3
namespace Go.Proofs.YtemedepjmnncbaaGreatDoor
set_option linter.unusedVariables false
set_option linter.unusedSimpArgs false
open Go.RowKit Go.Shelf Pu
theorem rcols_len (x : Sc) : (rcols x).length ≤ size x := by
  rw [rcols_eq]; exact cols_len x
def RColC (f : Nat) (t : Sc) : Prop := ∀ (W : World) (A : Option Addr) (c : Nat), size t ≤ 1000 → t.f4.length ≤ c → ScRow (· < W.heap.size) W A t.f4 →
  Calls Tryz.prog f #[scV t A c] W fun e W' => (∃ A' c', e = .returned (.slice A' (rcols t).length c') ∧ (rcols t).length ≤ c' ∧ IntRow (· < W'.heap.size) W' A' (rcols t)) ∧ Below W.heap.size W W'
set_option maxRecDepth 100000 in
set_option maxHeartbeats 4000000 in
theorem rColumns_c (t : Sc) : RColC 24 t := by
  refine Sc.ind (P := RColC 24) ?_ t
  intro k c0 v o l ih W A c hz hc hr
  have hlr := hr.1
  have IH : Hid _ := ih
  have HZ : Hid (1 + sizes l ≤ 1000) := by rw [size_eq] at hz; exact hz
  clear ih hz
  by_cases hk : k = 1
  · have hk' : (k == 1) = true := by simp [hk]
    have HKK : Hid _ := hk
    clear hk
    go_enter Tryz.func24, Tryz.ntmps24
    go_wp2_with (at_builtin; go_loud (refine append_int rfl _ _ rfl (W.heap.size + 1) (.slice (some ⟨W.heap.size + 1, 0, none⟩) 0 0) 0 [] rfl (World.ownsRow.alloc (own_empty (alloc_at (by simp)) (by simp)) _) ⟨W.heap.size + 1 + 1, 0, none⟩ 1 [.int .i64 c0] rfl rfl (cells_at (alloc_at (by simp))) (by simp [Value.oneCell']) (by omega) (by simp) ?_); intro v' w2 hown' hgrow)
    have hBB : Below W.heap.size W w2 := (ba (ba (ba (Below.refl _ _) _) _) _).grown hgrow (by simp; omega) (fun q hq => by simp [Value.ownBlock] at hq; omega)
    have HB0 : Hid _ := hBB
    have HK0 : Hid _ := (hgrow.block W.heap.size (by simp; omega) (by simp [Value.ownBlock])).trans (alloc_lt (alloc_lt (alloc_at rfl)))
    obtain ⟨A5, c5, rfl, hc5, hI⟩ := own_row (l := [c0]) hown' (RowL.append (R := intR .i64) (x := c0) rfl rfl (show RowL (intR .i64) 1 [] [] from rfl))
    have HI0 : Hid (IntRow (· < w2.heap.size) w2 A5 [c0]) := IntRow.move hI fun b hb => ⟨hb.2, rfl⟩
    clear hI hBB hgrow hown'
    go_loopg [3, 4] l.length (fun gg s3 s4 wr => ∃ (kk : Nat) (acc : List Int), kk ≤ l.length ∧ l.length - kk ≤ gg ∧ s4 = .int .i64 kk ∧ (∃ A2 c2, s3 = .slice A2 acc.length c2 ∧ acc.length ≤ c2 ∧ Hid (IntRow (· < wr.heap.size) wr A2 acc)) ∧
      Hid (acc.Pairwise (· < ·)) ∧ Hid (acc.length ≤ 1 + sizes (l.take kk)) ∧ Hid (rcolss [c0] l = rcolss acc (l.drop kk)) ∧ Hid (Below W.heap.size W wr) ∧
      Hid (wr.heap[W.heap.size]? = some (Obj.cells #[.int .i64 k, .int .i64 c0, .int .i64 v.f0, .int .i64 v.f1, .string v.f2, .int .i64 o, .slice A l.length c] 26 (0, 0))))
    case atStart => exact ⟨0, [c0], Nat.zero_le _, by omega, rfl, ⟨A5, c5, rfl, hc5, HI0.out⟩, by simp [Hid], by simp [Hid], by simp [Hid], HB0.out, HK0.out⟩
    case round =>
      obtain ⟨kk, acc, hkk, hg, rfl, ⟨A2, c2, rfl, hc2, HI⟩, HS, HLn, HR, HB, HK⟩ := hrel
      have hz := HK.out
      have zc0 := blk_cell hz 0 rfl
      have zc1 := blk_cell hz 1 rfl
      have zc2 := blk_cell hz 2 rfl
      have zc3 := blk_cell hz 3 rfl
      have zc4 := blk_cell hz 4 rfl
      have zc5 := blk_cell hz 5 rfl
      have zc6 := blk_cell hz 6 rfl
      clear hz
      have hsz := HB.out.size
      by_cases hlt : kk < l.length
      · have hx := List.getElem?_eq_getElem hlt
        obtain ⟨b, o', A', c', rfl, hbS, hc', hr', e0, e1, e2, e3, e4, e5, e6⟩ := (hr.below HB.out).get hx
        have hih := IH.out l[kk] (List.getElem_mem _)
        have HX : Hid (l[kk]? = some l[kk]) := hx
        have hst := sizes_take hx
        have hdr := drop_of hx
        clear hx
        generalize l[kk] = x at *
        have hsx : size x ≤ 1000 := by have := HZ.out; omega
        have HST : Hid _ := hst
        have HD : Hid _ := hdr
        have HI2 : Hid (∀ (W : World) (A : Option Addr) (c : Nat), size x ≤ 1000 → x.f4.length ≤ c → ScRow (· < W.heap.size) W A x.f4 →
          Calls Tryz.prog 24 #[scV x A c] W fun e W' => (∃ A' c', e = .returned (.slice A' (rcols x).length c') ∧ (rcols x).length ≤ c' ∧ IntRow (· < W'.heap.size) W' A' (rcols x)) ∧ Below W.heap.size W W') := hih
        clear hih hst hdr
        go_wp2_with fail
        refine (HI2.out _ A' c' hsx hc' (ScRow.lowE hr' (Below.refl _ _) (by omega))).mono ?_
        rintro e w1 ⟨⟨A3, c3, rfl, hc3, hr3⟩, hb⟩
        have HB1 : Hid (Below W.heap.size W w1) := bt HB.out hb
        have HK1 : Hid _ := bk hb HK.out
        have HI1 : Hid (IntRow (· < w1.heap.size) w1 A2 acc) := IntRow.low HI.out hb hb.size
        have HR3 : Hid _ := hr3
        have hl3 : (rcols x).length ≤ size x := rcols_len x
        have HL3 : Hid _ := hl3
        have hlr3 := hr3.1
        clear hb hr3 zc0 zc1 zc2 zc3 zc4 zc5 zc6 e0 e1 e2 e3 e4 e5 e6
        go_wp2_with fail
        generalize hrc : rcols x = m at *
        have HRC : Hid _ := hrc
        clear hrc
        go_loopg [3, 6] m.length (fun gg2 s3 s6 wq => ∃ (jj : Nat) (ac2 : List Int), jj ≤ m.length ∧ m.length - jj ≤ gg2 ∧ s6 = .int .i64 jj ∧ (∃ A4 c4, s3 = .slice A4 ac2.length c4 ∧ ac2.length ≤ c4 ∧ Hid (IntRow (· < wq.heap.size) wq A4 ac2)) ∧
          Hid (ac2.Pairwise (· < ·)) ∧ Hid (ac2.length ≤ 1 + sizes (l.take kk) + jj) ∧ Hid (m.foldl putL acc = (m.drop jj).foldl putL ac2) ∧ Hid (Below w1.heap.size w1 wq))
        case atStart => exact ⟨0, acc, Nat.zero_le _, by omega, rfl, ⟨A2, c2, rfl, hc2, HI1.out⟩, HS.out, HLn.out, by simp [Hid], Below.refl _ _⟩
        case round =>
          obtain ⟨jj, ac2, hjj, hg2, rfl, ⟨A4, c4, rfl, hc4, HI4⟩, HS4, HL4, HR4, HB4⟩ := hrel
          by_cases hlt2 : jj < m.length
          · have hy := List.getElem?_eq_getElem hlt2
            obtain ⟨b5, o5, rfl, hb5, f0⟩ := IntRow.get (IntRow.low HR3.out HB4.out (Nat.le_refl _)) hy
            have hdr := drop_of hy
            have HY : Hid _ := hdr
            have HLB : Hid (ac2.length ≤ 1000) := by have h1 := HL4.out; have h2 := HST.out; have h3 := HL3.out; have h4 := HZ.out; rw [Hid]; omega
            clear hy hdr
            generalize m[jj] = y at *
            go_wp2_with fail
            refine (put_c ac2 A4 c4 y _ HLB.out HS4.out hc4 HI4.out).mono ?_
            rintro e w5 ⟨⟨A6, c6, rfl, hc6, hr6⟩, hb6⟩
            have HR6 : Hid _ := hr6
            have HB6 : Hid _ := hb6
            clear hr6 hb6
            go_wp2_with fail
            go_roundg (m.length - (jj + 1))
            case measure => omega
            case rel =>
              refine ⟨jj + 1, putL ac2 y, by omega, by omega, by go_num, ⟨A6, c6, rfl, hc6, HR6.out⟩, putL_lt HS4.out, ?_, ?_, bt HB4.out HB6.out⟩
              · have h1 := HL4.out; have h2 := putL_len (n := y) (l := ac2); rw [Hid]; omega
              · rw [Hid, HR4.out, HY.out, List.foldl_cons]
          · have hj : jj = m.length := by omega
            subst hj
            have hac : m.foldl putL acc = ac2 := by have h := HR4.out; rw [List.drop_length] at h; exact h
            have HAC : Hid _ := hac
            clear hac hlt2 hg2
            go_wp2_with fail
            go_roundg (l.length - (kk + 1))
            case measure => omega
            case rel =>
              refine ⟨kk + 1, ac2, by omega, by omega, by go_num, ⟨A4, c4, rfl, hc4, HI4.out⟩, HS4.out, ?_, ?_, bt HB1.out HB4.out, bk HB4.out HK1.out⟩
              · have h1 := HL4.out; have h2 := HST.out; have h3 := HL3.out; rw [Hid]; omega
              · rw [Hid, HR.out, HD.out, rcolss, HRC.out, HAC.out]
      · have hk : kk = l.length := by omega
        subst hk
        have hac : rcolss [c0] l = acc := by have h := HR.out; rw [List.drop_length] at h; exact h
        have HAC : Hid _ := hac
        clear hac hlt hg
        go_wp2_with fail
        go_ret
        refine ⟨⟨A2, c2, ?_, ?_, ?_⟩, HB.out⟩
        · rw [rcols, if_pos HKK.out, HAC.out]; rfl
        · rw [rcols, if_pos HKK.out, HAC.out]; exact hc2
        · rw [rcols, if_pos HKK.out, HAC.out]; exact HI.out
  · have hk' : (k == 1) = false := by simp [hk]
    have HKK : Hid _ := hk
    clear hk
    go_enter Tryz.func24, Tryz.ntmps24
    go_wp2_with fail
    have HB0 : Hid (Below W.heap.size W _) := ba (ba (Below.refl _ _) (Obj.cells #[.int .i64 k, .int .i64 c0, .int .i64 v.f0, .int .i64 v.f1, .string v.f2, .int .i64 o, .slice A l.length c] 26)) (Obj.cells #[] 3)
    have HK0 : Hid _ := alloc_lt (o := Obj.cells #[] 3) (alloc_at (W := W) (o := Obj.cells #[.int .i64 k, .int .i64 c0, .int .i64 v.f0, .int .i64 v.f1, .string v.f2, .int .i64 o, .slice A l.length c] 26) rfl)
    go_loopg [3, 4] l.length (fun gg s3 s4 wr => ∃ (kk : Nat) (acc : List Int), kk ≤ l.length ∧ l.length - kk ≤ gg ∧ s4 = .int .i64 kk ∧ (∃ A2 c2, s3 = .slice A2 acc.length c2 ∧ acc.length ≤ c2 ∧ Hid (IntRow (· < wr.heap.size) wr A2 acc)) ∧
      Hid (acc.Pairwise (· < ·)) ∧ Hid (acc.length ≤ 1 + sizes (l.take kk)) ∧ Hid (rcolss [] l = rcolss acc (l.drop kk)) ∧ Hid (Below W.heap.size W wr) ∧
      Hid (wr.heap[W.heap.size]? = some (Obj.cells #[.int .i64 k, .int .i64 c0, .int .i64 v.f0, .int .i64 v.f1, .string v.f2, .int .i64 o, .slice A l.length c] 26 (0, 0))))
    case atStart => exact ⟨0, [], Nat.zero_le _, by omega, rfl, ⟨_, 0, rfl, Nat.le_refl _, Row.nil _⟩, by simp [Hid], by simp [Hid], by simp [Hid], HB0.out, HK0.out⟩
    case round =>
      obtain ⟨kk, acc, hkk, hg, rfl, ⟨A2, c2, rfl, hc2, HI⟩, HS, HLn, HR, HB, HK⟩ := hrel
      have hz := HK.out
      have zc0 := blk_cell hz 0 rfl
      have zc1 := blk_cell hz 1 rfl
      have zc2 := blk_cell hz 2 rfl
      have zc3 := blk_cell hz 3 rfl
      have zc4 := blk_cell hz 4 rfl
      have zc5 := blk_cell hz 5 rfl
      have zc6 := blk_cell hz 6 rfl
      clear hz
      have hsz := HB.out.size
      by_cases hlt : kk < l.length
      · have hx := List.getElem?_eq_getElem hlt
        obtain ⟨b, o', A', c', rfl, hbS, hc', hr', e0, e1, e2, e3, e4, e5, e6⟩ := (hr.below HB.out).get hx
        have hih := IH.out l[kk] (List.getElem_mem _)
        have HX : Hid (l[kk]? = some l[kk]) := hx
        have hst := sizes_take hx
        have hdr := drop_of hx
        clear hx
        generalize l[kk] = x at *
        have hsx : size x ≤ 1000 := by have := HZ.out; omega
        have HST : Hid _ := hst
        have HD : Hid _ := hdr
        have HI2 : Hid (∀ (W : World) (A : Option Addr) (c : Nat), size x ≤ 1000 → x.f4.length ≤ c → ScRow (· < W.heap.size) W A x.f4 →
          Calls Tryz.prog 24 #[scV x A c] W fun e W' => (∃ A' c', e = .returned (.slice A' (rcols x).length c') ∧ (rcols x).length ≤ c' ∧ IntRow (· < W'.heap.size) W' A' (rcols x)) ∧ Below W.heap.size W W') := hih
        clear hih hst hdr
        go_wp2_with fail
        refine (HI2.out _ A' c' hsx hc' (ScRow.lowE hr' (Below.refl _ _) (by omega))).mono ?_
        rintro e w1 ⟨⟨A3, c3, rfl, hc3, hr3⟩, hb⟩
        have HB1 : Hid (Below W.heap.size W w1) := bt HB.out hb
        have HK1 : Hid _ := bk hb HK.out
        have HI1 : Hid (IntRow (· < w1.heap.size) w1 A2 acc) := IntRow.low HI.out hb hb.size
        have HR3 : Hid _ := hr3
        have hl3 : (rcols x).length ≤ size x := rcols_len x
        have HL3 : Hid _ := hl3
        have hlr3 := hr3.1
        clear hb hr3 zc0 zc1 zc2 zc3 zc4 zc5 zc6 e0 e1 e2 e3 e4 e5 e6
        go_wp2_with fail
        generalize hrc : rcols x = m at *
        have HRC : Hid _ := hrc
        clear hrc
        go_loopg [3, 6] m.length (fun gg2 s3 s6 wq => ∃ (jj : Nat) (ac2 : List Int), jj ≤ m.length ∧ m.length - jj ≤ gg2 ∧ s6 = .int .i64 jj ∧ (∃ A4 c4, s3 = .slice A4 ac2.length c4 ∧ ac2.length ≤ c4 ∧ Hid (IntRow (· < wq.heap.size) wq A4 ac2)) ∧
          Hid (ac2.Pairwise (· < ·)) ∧ Hid (ac2.length ≤ 1 + sizes (l.take kk) + jj) ∧ Hid (m.foldl putL acc = (m.drop jj).foldl putL ac2) ∧ Hid (Below w1.heap.size w1 wq))
        case atStart => exact ⟨0, acc, Nat.zero_le _, by omega, rfl, ⟨A2, c2, rfl, hc2, HI1.out⟩, HS.out, HLn.out, by simp [Hid], Below.refl _ _⟩
        case round =>
          obtain ⟨jj, ac2, hjj, hg2, rfl, ⟨A4, c4, rfl, hc4, HI4⟩, HS4, HL4, HR4, HB4⟩ := hrel
          by_cases hlt2 : jj < m.length
          · have hy := List.getElem?_eq_getElem hlt2
            obtain ⟨b5, o5, rfl, hb5, f0⟩ := IntRow.get (IntRow.low HR3.out HB4.out (Nat.le_refl _)) hy
            have hdr := drop_of hy
            have HY : Hid _ := hdr
            have HLB : Hid (ac2.length ≤ 1000) := by have h1 := HL4.out; have h2 := HST.out; have h3 := HL3.out; have h4 := HZ.out; rw [Hid]; omega
            clear hy hdr
            generalize m[jj] = y at *
            go_wp2_with fail
            refine (put_c ac2 A4 c4 y _ HLB.out HS4.out hc4 HI4.out).mono ?_
            rintro e w5 ⟨⟨A6, c6, rfl, hc6, hr6⟩, hb6⟩
            have HR6 : Hid _ := hr6
            have HB6 : Hid _ := hb6
            clear hr6 hb6
            go_wp2_with fail
            go_roundg (m.length - (jj + 1))
            case measure => omega
            case rel =>
              refine ⟨jj + 1, putL ac2 y, by omega, by omega, by go_num, ⟨A6, c6, rfl, hc6, HR6.out⟩, putL_lt HS4.out, ?_, ?_, bt HB4.out HB6.out⟩
              · have h1 := HL4.out; have h2 := putL_len (n := y) (l := ac2); rw [Hid]; omega
              · rw [Hid, HR4.out, HY.out, List.foldl_cons]
          · have hj : jj = m.length := by omega
            subst hj
            have hac : m.foldl putL acc = ac2 := by have h := HR4.out; rw [List.drop_length] at h; exact h
            have HAC : Hid _ := hac
            clear hac hlt2 hg2
            go_wp2_with fail
            go_roundg (l.length - (kk + 1))
            case measure => omega
            case rel =>
              refine ⟨kk + 1, ac2, by omega, by omega, by go_num, ⟨A4, c4, rfl, hc4, HI4.out⟩, HS4.out, ?_, ?_, bt HB1.out HB4.out, bk HB4.out HK1.out⟩
              · have h1 := HL4.out; have h2 := HST.out; have h3 := HL3.out; rw [Hid]; omega
              · rw [Hid, HR.out, HD.out, rcolss, HRC.out, HAC.out]
      · have hk : kk = l.length := by omega
        subst hk
        have hac : rcolss [] l = acc := by have h := HR.out; rw [List.drop_length] at h; exact h
        have HAC : Hid _ := hac
        clear hac hlt hg
        go_wp2_with fail
        go_ret
        refine ⟨⟨A2, c2, ?_, ?_, ?_⟩, HB.out⟩
        · rw [rcols, if_neg HKK.out, HAC.out]; rfl
        · rw [rcols, if_neg HKK.out, HAC.out]; exact hc2
        · rw [rcols, if_neg HKK.out, HAC.out]; exact HI.out
end Go.Proofs.YtemedepjmnncbaaGreatDoor
