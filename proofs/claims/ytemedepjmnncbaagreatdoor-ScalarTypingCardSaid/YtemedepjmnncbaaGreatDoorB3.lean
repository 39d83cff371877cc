import Derived.Test.YtemedepjmnncbaaGreatDoorB2
import Derived.Test.YtemedepjmnncbaaGreatDoorPc
import Derived.Test.YtemedepjmnncbaaGreatDoorA12
namespace Go.Proofs.YtemedepjmnncbaaGreatDoor
set_option linter.unusedVariables false
set_option linter.unusedSimpArgs false
open Go.RowKit Go.Shelf Pu
theorem own_empty {w : World} {base g t sz : Nat} (h : w.heap[g]? = some (Obj.cells #[] t (0, 0))) (hg : base ≤ g) : w.ownsRow base t sz (.slice (some ⟨g, 0, none⟩) 0 0) 0 [] :=
  ⟨by simp, .inr ⟨g, 0, #[], rfl, hg, h, Nat.le_refl _, by unfold maxLen; omega, by simp, by simp⟩⟩
def PutS (n : Int) (t : List Int) (d : Bool) (outs : List Int) : Prop := (d = false ∧ (∀ y ∈ t, y < n) ∧ outs = t) ∨ (d = true ∧ (∃ y ∈ t, n < y) ∧ outs = putL t n)
theorem PutS.len {n : Int} {t : List Int} {d : Bool} {outs : List Int} (h : PutS n t d outs) : outs.length ≤ t.length + 1 := by
  rcases h with ⟨_, _, rfl⟩ | ⟨_, _, rfl⟩
  · omega
  · exact putL_len
theorem take_snoc {α : Type} {l : List α} {k : Nat} {x : α} (hx : l[k]? = some x) : l.take (k + 1) = l.take k ++ [x] := by
  obtain ⟨hk, rfl⟩ := List.getElem?_eq_some_iff.1 hx
  rw [← List.take_append_getElem hk]
set_option maxRecDepth 100000 in
set_option maxHeartbeats 2000000 in
theorem put_c (l : List Int) (A : Option Addr) (c : Nat) (n : Int) (W : World) (hl : l.length ≤ 1000) (hs : l.Pairwise (· < ·)) (hc : l.length ≤ c) (hr : IntRow (· < W.heap.size) W A l) :
    Calls Tryz.prog 62 #[.slice A l.length c, .int .i64 n] W fun e W' => (∃ A' c', e = .returned (.slice A' (putL l n).length c') ∧ (putL l n).length ≤ c' ∧ IntRow (· < W'.heap.size) W' A' (putL l n)) ∧ Below W.heap.size W W' := by
  have hlr := hr.1
  have HS : Hid _ := hs
  clear hs
  go_enter Tryz.func62, Tryz.ntmps62
  go_wp2_with fail
  go_loopg [5, 6, 7] l.length (fun gg s5 s6 s7 wr => ∃ (kk : Nat) (d : Bool) (outs : List Int), kk ≤ l.length ∧ l.length - kk ≤ gg ∧ s7 = .int .i64 kk ∧ s6 = .bool d ∧ Hid (PutS n (l.take kk) d outs) ∧ Hid (Below W.heap.size W wr) ∧
    ∃ xs, Hid (wr.ownsRow W.heap.size 3 1 s5 outs.length xs) ∧ Hid (RowL (intR .i64) 1 outs xs))
  case atStart => exact ⟨0, false, [], Nat.zero_le _, by omega, rfl, rfl, .inl ⟨rfl, by simp, by simp⟩, ba (Below.refl _ _) _, [], own_empty (alloc_at rfl) (Nat.le_refl _), rfl⟩
  case round =>
    obtain ⟨kk, d, outs, hkk, hg, rfl, rfl, HP, HB, xs, HO, HR⟩ := hrel
    have hol := HP.out.len
    have hol2 : outs.length ≤ 1001 := by rw [List.length_take] at hol; omega
    have hsz := HB.out.size
    clear hol
    by_cases hlt : kk < l.length
    · have hx := List.getElem?_eq_getElem hlt
      obtain ⟨b, o, rfl, hbS, e00⟩ := IntRow.get hr hx
      have e0 := cellB' HB.out e00
      have HE0 : Hid _ := e00
      have HX : Hid (l[kk]? = some l[kk]) := hx
      clear hx e00
      generalize l[kk] = x at *
      by_cases hxn : x = n
      · have hxn' : (x == n) = true := by simp [hxn]
        have HXN : Hid _ := hxn
        clear hxn
        go_wp2_with fail
        go_ret
        have hp : putL l n = l := putL_in HS.out (by rw [← HXN.out]; exact List.mem_of_getElem? HX.out)
        refine ⟨⟨some ⟨b, o, none⟩, c, by rw [hp]; rfl, by rw [hp]; exact hc, by rw [hp]; exact IntRow.low hr HB.out HB.out.size⟩, HB.out⟩
      · have hxn' : (x == n) = false := by simp [hxn]
        have HXN : Hid _ := hxn
        clear hxn
        have hbb : b < wr.heap.size := by have : b < W.heap.size := hbS; omega
        cases d with
        | true =>
          have HP2 : Hid (PutS n (l.take (kk + 1)) true (outs ++ [x])) := by
            rcases HP.out with ⟨h, _⟩ | ⟨_, h1, h2⟩
            · cases h
            · refine .inr ⟨rfl, ?_, ?_⟩
              · obtain ⟨y, hy, hyn⟩ := h1
                exact ⟨y, by rw [take_snoc HX.out]; exact List.mem_append_left _ hy, hyn⟩
              · rw [take_snoc HX.out, putL_after h1, h2]
          go_wp2_with (at_builtin; go_loud (refine append_int rfl _ _ rfl W.heap.size _ _ _ rfl (World.ownsRow.alloc HO.out _) ⟨wr.heap.size, 0, none⟩ 1 [.int .i64 x] rfl rfl (cells_at (heap_alloc_new _ _)) (by simp [Value.oneCell']) (by omega) (by simp; omega) ?_); intro v' w2 hown' hgrow)
          go_roundg (l.length - (kk + 1))
          case measure => omega
          case rel =>
            have hO2 := World.ownsRow.alloc HO.out (.cells #[.int .i64 x] 3)
            refine ⟨kk + 1, true, outs ++ [x], by omega, by omega, by go_num, rfl, HP2.out, own_grown (ba HB.out _) (by simp; omega) hO2 (Nat.le_refl _) hgrow, _, by rw [List.length_append]; exact hown', RowL.append (R := intR .i64) (x := x) rfl rfl HR.out⟩
        | false =>
          by_cases hnx : n < x
          · have HNX : Hid _ := hnx
            have HP2 : Hid (PutS n (l.take (kk + 1)) true (outs ++ [n] ++ [x])) := by
              rcases HP.out with ⟨_, h1, h2⟩ | ⟨h, _⟩
              · refine .inr ⟨rfl, ⟨x, by rw [take_snoc HX.out]; simp, HNX.out⟩, ?_⟩
                rw [take_snoc HX.out, putL_here h1 HNX.out, h2]; simp
              · cases h
            go_wp2_with (at_builtin; go_loud (first | (refine append_int rfl _ _ rfl W.heap.size _ _ _ rfl (World.ownsRow.alloc hown' _) ⟨w2.heap.size, 0, none⟩ 1 [.int .i64 x] rfl rfl (cells_at (heap_alloc_new _ _)) (by simp [Value.oneCell']) (by omega) (by have := hown'.1; simp; omega) ?_; intro v'' w3 hown'' hgrow') | (refine append_int rfl _ _ rfl W.heap.size _ _ _ rfl (World.ownsRow.alloc HO.out _) ⟨wr.heap.size, 0, none⟩ 1 [.int .i64 n] rfl rfl (cells_at (heap_alloc_new _ _)) (by simp [Value.oneCell']) (by omega) (by simp; omega) ?_; intro v' w2 hown' hgrow; have hO2 := World.ownsRow.alloc HO.out (.cells #[.int .i64 n] 3); have hB2 := own_grown (ba HB.out _) (by simp; omega) hO2 (Nat.le_refl _) hgrow; have hs2 := hB2.size; have e1 := cellB' hB2 HE0.out)))
            go_roundg (l.length - (kk + 1))
            case measure => omega
            case rel =>
              have hO2 := World.ownsRow.alloc HO.out (.cells #[.int .i64 n] 3)
              have hO3 := World.ownsRow.alloc hown' (.cells #[.int .i64 x] 3)
              have hB2 := own_grown (ba HB.out _) (by simp; omega) hO2 (Nat.le_refl _) hgrow
              refine ⟨kk + 1, true, outs ++ [n] ++ [x], by omega, by omega, by go_num, rfl, HP2.out, own_grown (ba hB2 _) (by have := hB2.size; simp; omega) hO3 (Nat.le_refl _) hgrow', _, by rw [List.length_append, List.length_append]; exact hown'', RowL.append (R := intR .i64) (x := x) rfl rfl (RowL.append (R := intR .i64) (x := n) rfl rfl HR.out)⟩
          · have HNX : Hid _ := hnx
            have HP2 : Hid (PutS n (l.take (kk + 1)) false (outs ++ [x])) := by
              rcases HP.out with ⟨_, h1, h2⟩ | ⟨h, _⟩
              · refine .inl ⟨rfl, ?_, by rw [take_snoc HX.out, h2]⟩
                intro y hy
                rw [take_snoc HX.out] at hy
                rcases List.mem_append.1 hy with hy | hy
                · exact h1 y hy
                · have e : y = x := by simpa using hy
                  have h5 : ¬ n < x := HNX.out
                  have h6 : ¬ x = n := HXN.out
                  rw [e]; omega
              · cases h
            go_wp2_with (at_builtin; go_loud (refine append_int rfl _ _ rfl W.heap.size _ _ _ rfl (World.ownsRow.alloc HO.out _) ⟨wr.heap.size, 0, none⟩ 1 [.int .i64 x] rfl rfl (cells_at (heap_alloc_new _ _)) (by simp [Value.oneCell']) (by omega) (by simp; omega) ?_); intro v' w2 hown' hgrow)
            go_roundg (l.length - (kk + 1))
            case measure => omega
            case rel =>
              have hO2 := World.ownsRow.alloc HO.out (.cells #[.int .i64 x] 3)
              refine ⟨kk + 1, false, outs ++ [x], by omega, by omega, by go_num, rfl, HP2.out, own_grown (ba HB.out _) (by simp; omega) hO2 (Nat.le_refl _) hgrow, _, by rw [List.length_append]; exact hown', RowL.append (R := intR .i64) (x := x) rfl rfl HR.out⟩
    · have : kk = l.length := by omega
      subst this
      have hP := HP.out
      rw [List.take_length] at hP
      have HP' : Hid _ := hP
      clear hP hlt hg
      cases d with
      | true =>
        have hout : outs = putL l n := by rcases HP'.out with ⟨h, _⟩ | ⟨_, _, h⟩; cases h; exact h
        obtain ⟨A5, c5, rfl, hc5, hI⟩ := own_row (l := outs) HO.out HR.out
        have HI : Hid _ := hI
        have HC : Hid _ := hc5
        have HOU : Hid _ := hout
        clear hI hc5 hout
        go_wp2_with fail
        go_ret
        exact ⟨⟨A5, c5, by rw [← HOU.out]; rfl, by rw [← HOU.out]; exact HC.out, by rw [← HOU.out]; exact IntRow.move HI.out fun b hb => ⟨hb.2, rfl⟩⟩, HB.out⟩
      | false =>
        have hout : outs ++ [n] = putL l n := by
          rcases HP'.out with ⟨_, h1, h2⟩ | ⟨h, _⟩
          · rw [putL_end h1, h2]
          · cases h
        have HOU : Hid _ := hout
        clear hout
        go_wp2_with (at_builtin; go_loud (refine append_int rfl _ _ rfl W.heap.size _ _ _ rfl (World.ownsRow.alloc HO.out _) ⟨wr.heap.size, 0, none⟩ 1 [.int .i64 n] rfl rfl (cells_at (heap_alloc_new _ _)) (by simp [Value.oneCell']) (by omega) (by simp; omega) ?_); intro v' w2 hown' hgrow)
        have hO2 := World.ownsRow.alloc HO.out (.cells #[.int .i64 n] 3)
        have hBB := own_grown (ba HB.out _) (by simp; omega) hO2 (Nat.le_refl _) hgrow
        obtain ⟨A5, c5, rfl, hc5, hI⟩ := own_row (l := outs ++ [n]) (by rw [List.length_append]; exact hown') (RowL.append (R := intR .i64) (x := n) rfl rfl HR.out)
        go_ret
        exact ⟨⟨A5, c5, by rw [← HOU.out]; rfl, by rw [← HOU.out]; exact hc5, by rw [← HOU.out]; exact IntRow.move hI fun b hb => ⟨hb.2, rfl⟩⟩, hBB⟩
end Go.Proofs.YtemedepjmnncbaaGreatDoor
