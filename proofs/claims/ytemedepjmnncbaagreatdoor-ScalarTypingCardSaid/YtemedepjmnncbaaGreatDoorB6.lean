import Derived.Test.YtemedepjmnncbaaGreatDoorB5
import Derived.Test.YtemedepjmnncbaaGreatDoorA13
namespace Go.Proofs.YtemedepjmnncbaaGreatDoor
set_option linter.unusedVariables false
set_option linter.unusedSimpArgs false
open Go.RowKit Go.Shelf Pu
mutual
def rtyp (cs : List Co) : Sc → Int
  | ⟨k, c, v, o, l⟩ => if k = 0 then v.f0 else if k = 1 then (if (cs.getD c.toNat cz).f1 < 0 ∨ 2 < (cs.getD c.toNat cz).f1 then -1 else (cs.getD c.toNat cz).f1) else resP o (rtyps cs l)
def rtyps (cs : List Co) : List Sc → List Int
  | [] => []
  | x :: l => rtyp cs x :: rtyps cs l
end
theorem rtyps_map (cs : List Co) (l : List Sc) : rtyps cs l = l.map (rtyp cs) := by
  induction l with
  | nil => rfl
  | cons x l ih => simp [rtyps, ih]
theorem typs_cases (cs : List Co) (l : List Sc) (h : ∀ x ∈ l, rtyp cs x = resO (typ cs x)) : (∃ ks, typs cs l = some ks ∧ l.map (rtyp cs) = ks) ∨ (typs cs l = none ∧ -1 ∈ l.map (rtyp cs)) := by
  induction l with
  | nil => exact .inl ⟨[], rfl, rfl⟩
  | cons x l ih =>
    have hx := h x (by simp)
    simp only [typs, List.map_cons]
    cases hu : typ cs x with
    | none => rw [hu] at hx; exact .inr ⟨rfl, by rw [hx]; simp [resO]⟩
    | some u =>
      rw [hu] at hx
      rcases ih fun y hy => h y (List.mem_cons_of_mem _ hy) with ⟨ks, h1, h2⟩ | ⟨h1, h2⟩
      · exact .inl ⟨u :: ks, by rw [h1]; rfl, by rw [hx, h2]; rfl⟩
      · exact .inr ⟨by rw [h1]; rfl, List.mem_cons_of_mem _ h2⟩
theorem rtyp_eq (cs : List Co) (t : Sc) : okT t = true → rtyp cs t = resO (typ cs t) := by
  refine Sc.ind (P := fun t => okT t = true → rtyp cs t = resO (typ cs t)) ?_ t
  intro k c v o l ih hok
  by_cases h0 : k = 0
  · simp only [rtyp, typ, if_pos h0, resO]
  by_cases h1 : k = 1
  · simp only [rtyp, typ, if_neg h0, if_pos h1]
    by_cases h : 0 ≤ (cs.getD c.toNat cz).f1 ∧ (cs.getD c.toNat cz).f1 ≤ 2
    · rw [if_neg (by omega), if_pos h]; rfl
    · rw [if_pos (by omega), if_neg h]; rfl
  · obtain ⟨-, rfl, rfl, ⟨n, rfl, hn, hla⟩, hl2, hl1, hokl⟩ := okT_op hok h0 h1
    simp only [rtyp, typ, if_neg h0, if_neg h1, rtyps_map]
    rcases typs_cases cs l fun x hx => ih x hx (hokl x hx) with ⟨ks, h2, h3⟩ | ⟨h2, h3⟩
    · rw [h2, h3]; rfl
    · rw [h2]; exact resP_bad h3 (.inl (by decide))
def RTypC (f : Nat) (cs : List Co) (t : Sc) : Prop := ∀ (W : World) (A : Option Addr) (c : Nat) (R : Option Addr) (cr : Nat), okT t = true → (∀ i ∈ refs t, i < (cs.length : Int)) → t.f4.length ≤ c → ScRow (· < W.heap.size) W A t.f4 → CoRow (· < W.heap.size) W R cs →
  Calls Tryz.prog f #[scV t A c, .slice R cs.length cr] W fun e W' => e = .returned (.int .i64 (rtyp cs t)) ∧ Below W.heap.size W W'
set_option maxRecDepth 100000 in
set_option maxHeartbeats 4000000 in
theorem rtyped_c (cs : List Co) (t : Sc) : RTypC 50 cs t := by
  refine Sc.ind (P := RTypC 50 cs) ?_ t
  intro k0 c0 v0 o0 l ih W A c R cr hok href hc hr hrow
  have hlr := hrow.1
  by_cases h0 : k0 = 0
  · have h0' : (k0 == 0) = true := by simp [h0]
    have H0 : Hid (k0 = 0) := h0
    clear h0
    go_enter Tryz.func50, Tryz.ntmps50
    go_wp2_with fail
    go_ret
    exact ⟨ret_int (by rw [rtyp, if_pos H0.out]), ba (Below.refl _ _) _⟩
  · have h0' : (k0 == 0) = false := by simp [h0]
    by_cases h1 : k0 = 1
    · have h1' : (k0 == 1) = true := by simp [h1]
      obtain ⟨n, rfl⟩ : ∃ n : Nat, c0 = n := by
        rw [h1] at hok; unfold okT Pu.node at hok; simp at hok; exact ⟨c0.toNat, by omega⟩
      have hn : n < cs.length := by
        have := href n (by simp [refs, h1]); omega
      have hni : (n : Int) < (cs.length : Int) := by omega
      have HN : Hid (k0 ≠ 0 ∧ k0 = 1) := ⟨h0, h1⟩
      clear h0 h1 href
      have hx := List.getElem?_eq_getElem hn
      obtain ⟨b, o, rfl, hbS, e0, e1⟩ := hrow.get hx
      have hbS' : b < W.heap.size := hbS
      have HX : Hid (cs[n]? = some cs[n]) := hx
      clear hx
      generalize cs[n] = x at *
      have hty : rtyp cs ⟨k0, n, v0, o0, l⟩ = if x.f1 < 0 ∨ 2 < x.f1 then -1 else x.f1 := by
        simp only [rtyp, if_neg HN.out.1, if_pos HN.out.2, Int.toNat_natCast, List.getD_eq_getElem?_getD, HX.out, Option.getD_some]
      have HT : Hid _ := hty
      clear hty
      by_cases g0 : x.f1 < 0
      · go_enter Tryz.func50, Tryz.ntmps50
        go_wp2_with fail
        go_ret
        exact ⟨ret_int (by rw [HT.out, if_pos (.inl g0)]), ba (Below.refl _ _) _⟩
      by_cases g1 : 2 < x.f1
      · go_enter Tryz.func50, Tryz.ntmps50
        go_wp2_with fail
        go_ret
        exact ⟨ret_int (by rw [HT.out, if_pos (.inr g1)]), ba (Below.refl _ _) _⟩
      · go_enter Tryz.func50, Tryz.ntmps50
        go_wp2_with fail
        go_ret
        exact ⟨ret_int (by rw [HT.out, if_neg (by omega)]), ba (Below.refl _ _) _⟩
    · have h1' : (k0 == 1) = false := by simp [h1]
      obtain ⟨-, rfl, rfl, ⟨n, rfl, hn, hla⟩, hl2, hl1, hokl⟩ := okT_op hok h0 h1
      have HN : Hid (k0 ≠ 0 ∧ k0 ≠ 1) := ⟨h0, h1⟩
      have HOK : Hid _ := hokl
      have HRF : Hid (∀ x ∈ l, ∀ i ∈ refs x, i < (cs.length : Int)) := fun x hx i hi => href i (by simp only [refs, List.mem_append, mem_refss]; exact .inr ⟨x, hx, hi⟩)
      have IH : Hid _ := ih
      clear h0 h1 hokl hla hok ih href
      go_enter Tryz.func50, Tryz.ntmps50
      go_wp2_with fail
      go_loopg [6, 7] l.length (fun gg s6 s7 wr => ∃ kk : Nat, kk ≤ l.length ∧ l.length - kk ≤ gg ∧ s7 = .int .i64 kk ∧ Hid (Below W.heap.size W wr) ∧
        Hid (wr.heap[W.heap.size]? = some (Obj.cells #[.int .i64 k0, .int .i64 0, .int .i64 vz.f0, .int .i64 vz.f1, .string vz.f2, .int .i64 (n : Int), .slice A l.length c] 26 (0, 0))) ∧
        ∃ xs, Hid (wr.ownsRow (W.heap.size + 1) 3 1 s6 kk xs) ∧ Hid (RowL (intR .i64) 1 ((l.take kk).map (rtyp cs)) xs))
      case atStart => exact ⟨0, Nat.zero_le _, by omega, rfl, ba (ba (Below.refl _ _) _) _, alloc_lt (alloc_at rfl), [], own_empty (alloc_at (by simp)) (Nat.le_refl _), by simp [Hid, RowL]⟩
      case round =>
        obtain ⟨kk, hkk, hg, rfl, HB, HK0, xs, HO, HR⟩ := hrel
        have hsz : W.heap.size < wr.heap.size := heap_lt HK0.out
        have hz := HK0.out
        have zc0 := blk_cell hz 0 rfl
        have zc1 := blk_cell hz 1 rfl
        have zc2 := blk_cell hz 2 rfl
        have zc3 := blk_cell hz 3 rfl
        have zc4 := blk_cell hz 4 rfl
        have zc5 := blk_cell hz 5 rfl
        have zc6 := blk_cell hz 6 rfl
        clear hz
        by_cases hlt : kk < l.length
        · have hx := List.getElem?_eq_getElem hlt
          obtain ⟨b, o, A', c', rfl, hbS, hc', hr', e0, e1, e2, e3, e4, e5, e6⟩ := (hr.below HB.out).get hx
          have hih := IH.out l[kk] (List.getElem_mem _)
          have hok' := HOK.out l[kk] (List.getElem_mem _)
          have href' := HRF.out l[kk] (List.getElem_mem _)
          have HX : Hid (l[kk]? = some l[kk]) := hx
          clear hx
          generalize l[kk] = x at *
          have HI : Hid (∀ (W : World) (A : Option Addr) (c : Nat) (R : Option Addr) (cr : Nat), okT x = true → (∀ i ∈ refs x, i < (cs.length : Int)) → x.f4.length ≤ c → ScRow (· < W.heap.size) W A x.f4 → CoRow (· < W.heap.size) W R cs →
            Calls Tryz.prog 50 #[scV x A c, .slice R cs.length cr] W fun e W' => e = .returned (.int .i64 (rtyp cs x)) ∧ Below W.heap.size W W') := hih
          have HRF' : Hid _ := href'
          clear hih href'
          go_wp2_with fail
          refine (HI.out _ A' c' R cr hok' HRF'.out hc' (ScRow.lowE hr' (Below.refl _ _) (by omega)) (CoRow.low hrow HB.out HB.out.size)).mono ?_
          rintro e w1 ⟨rfl, hb⟩
          have HB1 : Hid (Below wr.heap.size wr w1) := hb
          have HK2 : Hid _ := bk HB1.out HK0.out
          have HO1 : Hid _ := own_below HO.out HB1.out
          have hs1 := hb.size
          clear hb
          generalize hty : rtyp cs x = ty
          have HTY : Hid _ := hty
          clear hty
          go_wp2_with (at_builtin; go_loud (refine append_int rfl _ _ rfl (W.heap.size + 1) _ _ _ rfl (World.ownsRow.alloc HO1.out _) ⟨w1.heap.size, 0, none⟩ 1 [.int .i64 ty] rfl rfl (cells_at (heap_alloc_new _ _)) (by simp [Value.oneCell']) (by omega) (by simp; omega) ?_); intro v' w2 hown' hgrow)
          go_roundg (l.length - (kk + 1))
          case measure => omega
          case rel =>
            have hO2 := World.ownsRow.alloc HO1.out (.cells #[.int .i64 ty] 3)
            refine ⟨kk + 1, by omega, by omega, by go_num, own_grown (ba (bt HB.out HB1.out) _) (by simp; omega) hO2 (by omega) hgrow, grown_block hO2 hgrow (alloc_lt HK2.out) (by omega), _, hown', ?_⟩
            rw [Hid, kinds_take_sc HX.out, List.map_append, List.map_cons, HTY.out]
            exact RowL.append (R := intR .i64) (x := ty) rfl rfl HR.out
        · have : kk = l.length := by omega
          subst this
          have hR : RowL (intR .i64) 1 (l.map (rtyp cs)) xs := by have h := HR.out; rwa [List.take_length] at h
          obtain ⟨A5, c5, rfl, hc5, hI⟩ := own_row (l := l.map (rtyp cs)) (by rw [List.length_map]; exact HO.out) hR
          have HI : Hid (∀ w', Below wr.heap.size wr w' → IntRow (· < w'.heap.size) w' A5 (l.map (rtyp cs))) := fun w' hw => IntRow.move hI fun b hb => ⟨by have := hw.size; omega, hw.block b hb.2⟩
          have HRs : Hid (∀ w', Below wr.heap.size wr w' → Calls Tryz.prog 88 #[.int .i64 (n : Int), .slice A5 l.length c5] w' fun e W' => e = .returned (.int .i64 (resP n (l.map (rtyp cs)))) ∧ Below w'.heap.size w' W') := by
            intro w' hw
            have h := Result_c n hn (l.map (rtyp cs)) A5 c5 w' (HI.out w' hw)
            rwa [List.length_map] at h
          rw [List.length_map]
          clear hR hI hlt hg
          go_wp2_with fail
          refine (HRs.out _ (Below.refl _ _)).mono ?_
          rintro e w1 ⟨rfl, hb⟩
          have HB1 : Hid _ := hb
          clear hb
          go_wp2_with fail
          go_ret
          exact ⟨ret_int (by rw [rtyp, if_neg HN.out.1, if_neg HN.out.2, rtyps_map]), bt HB.out HB1.out⟩
end Go.Proofs.YtemedepjmnncbaaGreatDoor
