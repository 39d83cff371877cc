import Derived.Test.YtemedepjmnncbaaGreatDoorA10
import Derived.Test.YtemedepjmnncbaaGreatDoorA14
namespace Go.Proofs.YtemedepjmnncbaaGreatDoor
set_option linter.unusedVariables false
set_option linter.unusedSimpArgs false
open Go.RowKit Go.Shelf Pu
/-! The reference's size and the guards of the laws. -/
theorem sizes_take {l : List Sc} {k : Nat} {x : Sc} (hx : l[k]? = some x) : sizes (l.take (k + 1)) = sizes (l.take k) + size x ∧ sizes (l.take (k + 1)) ≤ sizes l := by
  obtain ⟨hk, rfl⟩ := List.getElem?_eq_some_iff.1 hx
  constructor
  · rw [← List.take_append_getElem hk, sizes_append]; simp [sizes]
  · have h := sizes_append (l.take (k + 1)) (l.drop (k + 1))
    rw [List.take_append_drop] at h; omega
theorem sizes_take_le (l : List Sc) (k : Nat) : sizes (l.take k) ≤ sizes l := by
  have h := sizes_append (l.take k) (l.drop k)
  rw [List.take_append_drop] at h; omega
def CntC (f : Nat) (t : Sc) : Prop := ∀ (m : Nat) (W : World) (A : Option Addr) (c : Nat), m ≤ 1000 → t.f4.length ≤ c → ScRow (· < W.heap.size) W A t.f4 →
  Calls Tryz.prog f #[scV t A c, .int .i64 (m : Int)] W fun e W' => e = .returned (.int .i64 ((min (size t) (m + 1) : Nat) : Int)) ∧ Below W.heap.size W W'
set_option maxRecDepth 100000 in
set_option maxHeartbeats 2000000 in
theorem count_c (t : Sc) : CntC 54 t := by
  refine Sc.ind (P := CntC 54) ?_ t
  intro k0 c0 v0 o0 l ih m W A c hm hc hr
  have hlr := hr.1
  have IH : Hid _ := ih
  clear ih
  go_enter Tryz.func54, Tryz.ntmps54
  go_wp2_with fail
  go_loopg [5, 6] l.length (fun gg s5 s6 wr => ∃ kk n : Nat, kk ≤ l.length ∧ l.length - kk ≤ gg ∧ s6 = .int .i64 kk ∧ s5 = .int .i64 n ∧ Hid (n = min (1 + sizes (l.take kk)) (m + 1)) ∧ Hid (Below W.heap.size W wr) ∧
    Hid (wr.heap[W.heap.size]? = some (Obj.cells #[.int .i64 k0, .int .i64 c0, .int .i64 v0.f0, .int .i64 v0.f1, .string v0.f2, .int .i64 o0, .slice A l.length c] 26 (0, 0))))
  case atStart => exact ⟨0, 1, Nat.zero_le _, by omega, rfl, rfl, by simp [Hid, sizes], ba (Below.refl _ _) _, alloc_at rfl⟩
  case round =>
    obtain ⟨kk, n, hkk, hg, rfl, rfl, HN, HB, HK⟩ := hrel
    have hz := HK.out
    have zc0 := blk_cell hz 0 rfl
    have zc1 := blk_cell hz 1 rfl
    have zc2 := blk_cell hz 2 rfl
    have zc3 := blk_cell hz 3 rfl
    have zc4 := blk_cell hz 4 rfl
    have zc5 := blk_cell hz 5 rfl
    have zc6 := blk_cell hz 6 rfl
    have hsz := heap_lt hz
    clear hz
    by_cases hlt : kk < l.length
    · by_cases hnm : n ≤ m
      · have hx := List.getElem?_eq_getElem hlt
        obtain ⟨b, o, A', c', rfl, hbS, hc', hr', e0, e1, e2, e3, e4, e5, e6⟩ := (hr.below HB.out).get hx
        have hih := IH.out l[kk] (List.getElem_mem _)
        have HX : Hid (l[kk]? = some l[kk]) := hx
        clear hx
        generalize l[kk] = x at *
        have HI : Hid (∀ (m : Nat) (W : World) (A : Option Addr) (c : Nat), m ≤ 1000 → x.f4.length ≤ c → ScRow (· < W.heap.size) W A x.f4 →
          Calls Tryz.prog 54 #[scV x A c, .int .i64 (m : Int)] W fun e W' => e = .returned (.int .i64 ((min (size x) (m + 1) : Nat) : Int)) ∧ Below W.heap.size W W') := hih
        clear hih
        have hw1 : IntKind.i64.wrap ((m : Int) - (n : Int)) = ((m - n : Nat) : Int) := by simp [IntKind.wrap, IntKind.bits, IntKind.signed]; omega
        go_wp2_with fail
        refine (HI.out (m - n) _ A' c' (by omega) hc' (ScRow.lowE hr' (Below.refl _ _) (by have := HB.out.size; omega))).mono ?_
        rintro e w1 ⟨rfl, hb⟩
        have HB1 : Hid _ := hb
        have hmin : min (size x) (m - n + 1) ≤ m + 1 := by omega
        have hw2 : IntKind.i64.wrap ((n : Int) + ((min (size x) (m - n + 1) : Nat) : Int)) = ((n + min (size x) (m - n + 1) : Nat) : Int) := by simp [IntKind.wrap, IntKind.bits, IntKind.signed]; omega
        have hN := HN.out
        have hst := sizes_take HX.out
        have HN2 : Hid (n + min (size x) (m - n + 1) = min (1 + sizes (l.take (kk + 1))) (m + 1)) := by rw [Hid]; omega
        generalize min (size x) (m - n + 1) = y at *
        clear hb hN hst hmin hw1
        go_wp2_with fail
        go_roundg (l.length - (kk + 1))
        case measure => omega
        case rel => exact ⟨kk + 1, n + y, by omega, by omega, by go_num, by first | rfl | (rw [hw2]) | go_num, HN2.out, bt HB.out HB1.out, bk HB1.out HK.out⟩
      · have hnm' : m < n := by omega
        go_wp2_with fail
        go_ret
        refine ⟨?_, HB.out⟩
        have h1 := HN.out
        have h2 := sizes_take_le l kk
        rw [size_eq]
        show Ending.returned (.int .i64 (n : Int)) = Ending.returned (.int .i64 ((min (1 + sizes l) (m + 1) : Nat) : Int))
        rw [show n = min (1 + sizes l) (m + 1) by omega]
    · have : kk = l.length := by omega
      subst this
      clear hlt hg
      go_wp2_with fail
      go_ret
      refine ⟨?_, HB.out⟩
      have h1 := HN.out
      rw [List.take_length] at h1
      rw [size_eq]
      show Ending.returned (.int .i64 (n : Int)) = Ending.returned (.int .i64 ((min (1 + sizes l) (m + 1) : Nat) : Int))
      rw [h1]
mutual
def few (m : Nat) : Sc → Bool
  | ⟨k, c, v, o, l⟩ => decide (size ⟨k, c, v, o, l⟩ ≤ m) && decide (v.f2.size ≤ 300) && fews m l
def fews (m : Nat) : List Sc → Bool
  | [] => true
  | x :: l => few m x && fews m l
end
theorem fews_all (m : Nat) (l : List Sc) : fews m l = l.all (few m) := by
  induction l with
  | nil => rfl
  | cons x l ih => simp [fews, ih]
theorem all_take {α : Type} {l : List α} {p : α → Bool} {k : Nat} {x : α} (hx : l[k]? = some x) (h : (l.take k).all p = true) (hp : p x = true) : (l.take (k + 1)).all p = true := by
  obtain ⟨hk, rfl⟩ := List.getElem?_eq_some_iff.1 hx
  rw [← List.take_append_getElem hk, List.all_append, h]; simp [hp]
theorem all_not {α : Type} {l : List α} {p : α → Bool} {k : Nat} {x : α} (hx : l[k]? = some x) (hp : p x = false) : l.all p = false := by
  rw [List.all_eq_false]; exact ⟨x, List.mem_of_getElem? hx, by simp [hp]⟩
def FewC (f : Nat) (t : Sc) : Prop := ∀ (m : Nat) (W : World) (A : Option Addr) (c : Nat), m ≤ 1000 → t.f4.length ≤ c → ScRow (· < W.heap.size) W A t.f4 →
  Calls Tryz.prog f #[scV t A c, .int .i64 (m : Int)] W fun e W' => e = .returned (.bool (few m t)) ∧ Below W.heap.size W W'
set_option maxRecDepth 100000 in
set_option maxHeartbeats 2000000 in
theorem Few_c (t : Sc) : FewC 45 t := by
  refine Sc.ind (P := FewC 45) ?_ t
  intro k0 c0 v0 o0 l ih m W A c hm hc hr
  have hlr := hr.1
  have IH : Hid _ := ih
  have HCN : Hid _ := count_c ⟨k0, c0, v0, o0, l⟩
  clear ih
  go_enter Tryz.func45, Tryz.ntmps45
  go_wp2_with fail
  refine (HCN.out m _ A c hm hc (ScRow.lowE hr ((Below.refl _ _).alloc (Nat.le_refl _) _) (by simp))).mono ?_
  rintro e w1 ⟨rfl, hb⟩
  have HB : Hid (Below W.heap.size W w1) := bt (ba (Below.refl _ _) _) hb
  have HK : Hid _ := bk hb (n := W.heap.size) (alloc_at rfl)
  have hz := HK.out
  have zc0 := blk_cell hz 0 rfl
  have zc1 := blk_cell hz 1 rfl
  have zc2 := blk_cell hz 2 rfl
  have zc3 := blk_cell hz 3 rfl
  have zc4 := blk_cell hz 4 rfl
  have zc5 := blk_cell hz 5 rfl
  have zc6 := blk_cell hz 6 rfl
  clear hb hz
  by_cases hs : size ⟨k0, c0, v0, o0, l⟩ ≤ m
  · have hmin : ¬ m < min (size ⟨k0, c0, v0, o0, l⟩) (m + 1) := by omega
    have HS : Hid _ := hs
    clear hs
    generalize min (size ⟨k0, c0, v0, o0, l⟩) (m + 1) = y at *
    by_cases ht : v0.f2.size ≤ 300
    · have ht' : ¬ (300 : Int) < (v0.f2.size : Int) := by omega
      have HT : Hid _ := ht
      clear ht
      go_wp2_with fail
      go_loopg [5] l.length (fun gg s5 wr => ∃ kk : Nat, kk ≤ l.length ∧ l.length - kk ≤ gg ∧ s5 = .int .i64 kk ∧ Hid ((l.take kk).all (few m) = true) ∧ Hid (Below W.heap.size W wr) ∧
        Hid (wr.heap[W.heap.size]? = some (Obj.cells #[.int .i64 k0, .int .i64 c0, .int .i64 v0.f0, .int .i64 v0.f1, .string v0.f2, .int .i64 o0, .slice A l.length c] 26 (0, 0))))
      case atStart => exact ⟨0, Nat.zero_le _, by omega, rfl, by simp [Hid], HB.out, HK.out⟩
      case round =>
        obtain ⟨kk, hkk, hg, rfl, HA, HB, HK⟩ := hrel
        clear zc0 zc1 zc2 zc3 zc4 zc5 zc6
        have hz := HK.out
        have zc0 := blk_cell hz 0 rfl
        have zc1 := blk_cell hz 1 rfl
        have zc2 := blk_cell hz 2 rfl
        have zc3 := blk_cell hz 3 rfl
        have zc4 := blk_cell hz 4 rfl
        have zc5 := blk_cell hz 5 rfl
        have zc6 := blk_cell hz 6 rfl
        clear hz
        by_cases hlt : kk < l.length
        · have hx := List.getElem?_eq_getElem hlt
          obtain ⟨b, o, A', c', rfl, hbS, hc', hr', e0, e1, e2, e3, e4, e5, e6⟩ := (hr.below HB.out).get hx
          have hih := IH.out l[kk] (List.getElem_mem _)
          have HX : Hid (l[kk]? = some l[kk]) := hx
          clear hx
          generalize l[kk] = x at *
          have HI : Hid (∀ (m : Nat) (W : World) (A : Option Addr) (c : Nat), m ≤ 1000 → x.f4.length ≤ c → ScRow (· < W.heap.size) W A x.f4 →
            Calls Tryz.prog 45 #[scV x A c, .int .i64 (m : Int)] W fun e W' => e = .returned (.bool (few m x)) ∧ Below W.heap.size W W') := hih
          clear hih
          go_wp2_with fail
          refine (HI.out m _ A' c' hm hc' (ScRow.lowE hr' (Below.refl _ _) (by have := HB.out.size; omega))).mono ?_
          rintro e w2 ⟨rfl, hb⟩
          have HB1 : Hid _ := hb
          clear hb
          cases hf : few m x with
          | true =>
            have HF : Hid _ := hf
            clear hf
            go_wp2_with fail
            go_roundg (l.length - (kk + 1))
            case measure => omega
            case rel => exact ⟨kk + 1, by omega, by omega, by go_num, all_take HX.out HA.out HF.out, bt HB.out HB1.out, bk HB1.out HK.out⟩
          | false =>
            have HF : Hid _ := hf
            clear hf
            go_wp2_with fail
            go_ret
            exact ⟨ret_bool (by rw [few, fews_all, all_not HX.out HF.out, Bool.and_false]), bt HB.out HB1.out⟩
        · have : kk = l.length := by omega
          subst this
          clear hlt hg
          go_wp2_with fail
          go_ret
          refine ⟨ret_bool ?_, HB.out⟩
          have h := HA.out
          rw [List.take_length] at h
          rw [few, fews_all, h, decide_eq_true HS.out, decide_eq_true HT.out]; rfl
    · have ht' : ¬ (v0.f2.size : Int) ≤ 300 := by omega
      have ht2 : (300 : Int) < (v0.f2.size : Int) := by omega
      have HT : Hid _ := ht
      clear ht
      go_wp2_with fail
      go_ret
      exact ⟨ret_bool (by rw [few, decide_eq_false HT.out, Bool.and_false, Bool.false_and]), HB.out⟩
  · have hmin : m < min (size ⟨k0, c0, v0, o0, l⟩) (m + 1) := by omega
    have HS : Hid _ := hs
    clear hs
    generalize min (size ⟨k0, c0, v0, o0, l⟩) (m + 1) = y at *
    go_wp2_with fail
    go_ret
    exact ⟨ret_bool (by rw [few, decide_eq_false HS.out, Bool.false_and, Bool.false_and]), HB.out⟩
def shortB (n : Nat) (row : List Va) : Bool := row.all (fun v => decide (v.f2.size ≤ 300)) && decide (row.length ≤ n)
set_option maxHeartbeats 1000000 in
theorem Short_c (row : List Va) (R : Option Addr) (cr n : Nat) (W : World) (hr : VaRow (· < W.heap.size) W R row) : Calls Tryz.prog 46 #[.slice R row.length cr, .int .i64 (n : Int)] W fun e W' => e = .returned (.bool (shortB n row)) ∧ Below W.heap.size W W' := by
  have hlr := hr.1
  go_enter Tryz.func46, Tryz.ntmps46
  go_wp2_with fail
  go_loopg [5] row.length (fun gg s5 wr => ∃ kk : Nat, kk ≤ row.length ∧ row.length - kk ≤ gg ∧ s5 = .int .i64 kk ∧ Hid ((row.take kk).all (fun v => decide (v.f2.size ≤ 300)) = true) ∧ Hid (wr = W))
  case atStart => exact ⟨0, Nat.zero_le _, by omega, rfl, by simp [Hid], rfl⟩
  case round =>
    obtain ⟨kk, hkk, hg, rfl, HA, HW⟩ := hrel
    have hwr : wr = W := HW.out
    subst hwr
    by_cases hlt : kk < row.length
    · have hx := List.getElem?_eq_getElem hlt
      obtain ⟨b, o, rfl, hbS, e0, e1, e2⟩ := hr.get hx
      have HX : Hid (row[kk]? = some row[kk]) := hx
      clear hx
      generalize row[kk] = x at *
      by_cases ht : x.f2.size ≤ 300
      · have ht' : ¬ (300 : Int) < (x.f2.size : Int) := by omega
        have HT : Hid _ := ht
        clear ht
        go_wp2_with fail
        go_roundg (row.length - (kk + 1))
        case measure => omega
        case rel => exact ⟨kk + 1, by omega, by omega, by go_num, all_take HX.out HA.out (decide_eq_true HT.out), rfl⟩
      · have ht' : (300 : Int) < (x.f2.size : Int) := by omega
        have HT : Hid _ := ht
        clear ht
        go_wp2_with fail
        go_ret
        exact ⟨ret_bool (by rw [shortB, all_not HX.out (decide_eq_false HT.out), Bool.false_and]), Below.refl _ _⟩
    · have : kk = row.length := by omega
      subst this
      clear hlt hg
      go_wp2_with fail
      go_ret
      refine ⟨ret_bool ?_, Below.refl _ _⟩
      have h := HA.out
      rw [List.take_length] at h
      rw [shortB, h, Bool.true_and]
def lightB (row : List Va) (l : List Sc) : Bool := l.all (few 30) && shortB 20 row
set_option maxHeartbeats 1000000 in
theorem light_c (row : List Va) (R : Option Addr) (cr : Nat) (l : List Sc) (A : Option Addr) (c : Nat) (W : World) (hr : VaRow (· < W.heap.size) W R row) (hl : ScRow (· < W.heap.size) W A l) : Calls Tryz.prog 13 #[.slice R row.length cr, .slice A l.length c] W fun e W' => e = .returned (.bool (lightB row l)) ∧ Below W.heap.size W W' := by
  have hlr := hr.1
  have hll := hl.1
  go_enter Tryz.func13, Tryz.ntmps13
  go_wp2_with fail
  go_loopg [5] l.length (fun gg s5 wr => ∃ kk : Nat, kk ≤ l.length ∧ l.length - kk ≤ gg ∧ s5 = .int .i64 kk ∧ Hid ((l.take kk).all (few 30) = true) ∧ Hid (Below W.heap.size W wr))
  case atStart => exact ⟨0, Nat.zero_le _, by omega, rfl, by simp [Hid], Below.refl _ _⟩
  case round =>
    obtain ⟨kk, hkk, hg, rfl, HA, HB⟩ := hrel
    by_cases hlt : kk < l.length
    · have hx := List.getElem?_eq_getElem hlt
      obtain ⟨b, o, A', c', rfl, hbS, hc', hr', e0, e1, e2, e3, e4, e5, e6⟩ := (hl.below HB.out).get hx
      have HX : Hid (l[kk]? = some l[kk]) := hx
      clear hx
      generalize l[kk] = x at *
      have HI : Hid _ := Few_c x
      go_wp2_with fail
      refine (HI.out 30 _ A' c' (by decide) hc' (ScRow.lowE hr' (Below.refl _ _) (by have := HB.out.size; omega))).mono ?_
      rintro e w2 ⟨rfl, hb⟩
      have HB1 : Hid _ := hb
      clear hb
      cases hf : few 30 x with
      | true =>
        have HF : Hid _ := hf
        clear hf
        go_wp2_with fail
        go_roundg (l.length - (kk + 1))
        case measure => omega
        case rel => exact ⟨kk + 1, by omega, by omega, by go_num, all_take HX.out HA.out HF.out, bt HB.out HB1.out⟩
      | false =>
        have HF : Hid _ := hf
        clear hf
        go_wp2_with fail
        go_ret
        exact ⟨ret_bool (by rw [lightB, all_not HX.out HF.out, Bool.false_and]), bt HB.out HB1.out⟩
    · have : kk = l.length := by omega
      subst this
      clear hlt hg
      have HR : Hid _ := hr
      go_wp2_with fail
      refine (Short_c row R cr 20 _ (VaRow.low HR.out HB.out HB.out.size)).mono ?_
      rintro e w2 ⟨rfl, hb⟩
      have HB1 : Hid _ := hb
      clear hb
      go_wp2_with fail
      go_ret
      refine ⟨ret_bool ?_, bt HB.out HB1.out⟩
      have h := HA.out
      rw [List.take_length] at h
      rw [lightB, h, Bool.true_and]
end Go.Proofs.YtemedepjmnncbaaGreatDoor
