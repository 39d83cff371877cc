import Derived.Test.YtemedepjmnncbaaGreatDoorA6
namespace Go.Proofs.YtemedepjmnncbaaGreatDoor
set_option linter.unusedVariables false
set_option linter.unusedSimpArgs false
open Go.RowKit Go.Shelf Pu

/-! Equality of trees. -/
def EqC (f : Nat) (a : Sc) : Prop := ∀ (b : Sc) (W : World) (A : Option Addr) (c : Nat) (B : Option Addr) (d : Nat), ScRow (· < W.heap.size) W A a.f4 → ScRow (· < W.heap.size) W B b.f4 →
  Calls Tryz.prog f #[scV a A c, scV b B d] W fun e W' => e = .returned (.bool (decide (a = b))) ∧ Below W.heap.size W W'
theorem take_eq {α : Type} {l m : List α} {k : Nat} {x y : α} (hx : l[k]? = some x) (hy : m[k]? = some y) (h : l.take k = m.take k) : (x = y → l.take (k + 1) = m.take (k + 1)) ∧ (x ≠ y → l ≠ m) := by
  obtain ⟨h1, rfl⟩ := List.getElem?_eq_some_iff.1 hx
  obtain ⟨h2, rfl⟩ := List.getElem?_eq_some_iff.1 hy
  refine ⟨fun e => by rw [← List.take_append_getElem h1, ← List.take_append_getElem h2, h, e], fun hne e => hne ?_⟩
  subst e; rfl
theorem ScRow.lowE {B B' : Nat} {w w' : World} {A : Option Addr} {l : List Sc} (h : ScRow (· < B) w A l) (hb : Below B w w') (hB : B ≤ B') : ScRow (· < B') w' A l := h.move fun b hb' => ⟨by omega, hb.block b hb'⟩
set_option maxRecDepth 100000 in
set_option maxHeartbeats 2000000 in
theorem EqualFunc_c (l m : List Sc) (g : Nat) (eg : ∀ args w, (callFunc g args).run Tryz.prog w = .ok (.enter g args) w) (hE : ∀ x ∈ l, EqC g x) (W : World) (A : Option Addr) (c : Nat) (B : Option Addr) (d : Nat) (hr : ScRow (· < W.heap.size) W A l) (hs : ScRow (· < W.heap.size) W B m) :
    Calls Tryz.prog 56 #[.slice A l.length c, .slice B m.length d, .func (.func g) #[] #[]] W fun e W' => e = .returned (.bool (decide (l = m))) ∧ Below W.heap.size W W' := by
  have hl1 := hr.1
  have hl2 := hs.1
  have HE : Hid _ := hE
  clear hE
  by_cases hlm : l.length = m.length
  · have hlm' : ((l.length : Int) != (m.length : Int)) = false := by simp [hlm]
    have HLM : Hid _ := hlm
    clear hlm
    go_enter Tryz.func56, Tryz.ntmps56
    go_wp2_with fail
    go_loopg [17] l.length (fun gg s17 wr => ∃ kk : Nat, kk ≤ l.length ∧ l.length - kk ≤ gg ∧ s17 = .int .i64 kk ∧ Hid (l.take kk = m.take kk) ∧ Hid (Below W.heap.size W wr))
    case atStart => exact ⟨0, Nat.zero_le _, by omega, rfl, by simp [Hid], Below.refl _ _⟩
    case round =>
      obtain ⟨kk, hkk, hg, rfl, HT, HB⟩ := hrel
      by_cases hlt : kk < l.length
      · have hlt2 : kk < m.length := by have := HLM.out; omega
        have hx := List.getElem?_eq_getElem hlt
        have hy := List.getElem?_eq_getElem hlt2
        obtain ⟨b1, o1, A1, c1, rfl, hb1, hc1, hr1, e0, e1, e2, e3, e4, e5, e6⟩ := (hr.below HB.out).get hx
        obtain ⟨b2, o2, A2, c2, rfl, hb2, hc2, hr2, f0, f1, f2, f3, f4, f5, f6⟩ := (hs.below HB.out).get hy
        have hEx := HE.out l[kk] (List.getElem_mem _)
        have HX : Hid (l[kk]? = some l[kk]) := hx
        have HY : Hid (m[kk]? = some m[kk]) := hy
        have HW : Hid _ := hEx
        have hs0 := HB.out.size
        have hb1' : b1 < wr.heap.size := by omega
        have hb2' : b2 < wr.heap.size := by omega
        have k0 : ∀ o, (wr.alloc o).cell? ⟨b2, o2 + kk * 7, none⟩ = some (.int .i64 m[kk].f0) := fun o => by rw [World.cell?_alloc_lt _ _ _ hb2']; exact f0
        clear hx hy hEx
        generalize l[kk] = x at *
        generalize m[kk] = y at *
        go_wp2_with fail
        refine (HW.out y _ A1 c1 A2 c2 (hr1.lowE (Below.refl _ _ |>.alloc (Nat.le_trans (Nat.le_refl _) hs0) _ |>.alloc (by simp; omega) _) (by simp; omega)) (hr2.lowE (Below.refl _ _ |>.alloc (Nat.le_trans (Nat.le_refl _) hs0) _ |>.alloc (by simp; omega) _) (by simp; omega))).mono ?_
        rintro e w1 ⟨rfl, hb⟩
        have HB1 : Hid (Below wr.heap.size wr w1) := bt (ba (ba (Below.refl _ _) _) _) hb
        clear hb
        by_cases hxy : x = y
        · have hd : decide (x = y) = true := by simp [hxy]
          have HXY : Hid (x = y) := hxy
          clear hxy
          go_wp2_with fail
          go_roundg (l.length - (kk + 1))
          case measure => omega
          case rel => exact ⟨kk + 1, by omega, by omega, by go_num, (take_eq HX.out HY.out HT.out).1 HXY.out, bt HB.out HB1.out⟩
        · have hd : decide (x = y) = false := by simp [hxy]
          have HXY : Hid (x ≠ y) := hxy
          clear hxy
          go_wp2_with fail
          go_ret
          exact ⟨ret_bool (by simp [(take_eq HX.out HY.out HT.out).2 HXY.out]), bt HB.out HB1.out⟩
      · have : kk = l.length := by omega
        subst this
        have HF : Hid (l = m) := by have h := HT.out; rw [HLM.out, List.take_length, ← HLM.out, List.take_length] at h; exact h
        clear hlt hg
        go_wp2_with fail
        go_ret
        exact ⟨ret_bool (by simp [HF.out]), HB.out⟩
  · have hlm' : ((l.length : Int) != (m.length : Int)) = true := by simp; omega
    have HLM : Hid (l.length ≠ m.length) := hlm
    clear hlm
    go_enter Tryz.func56, Tryz.ntmps56
    go_wp2_with fail
    go_ret
    exact ⟨ret_bool (by rw [eq_comm, decide_eq_false_iff_not]; intro e; exact HLM.out (by rw [e])), Below.refl _ _⟩
set_option maxRecDepth 100000 in
set_option maxHeartbeats 2000000 in
theorem Equal_c (t : Sc) : EqC 18 t := by
  refine Sc.ind (P := EqC 18) ?_ t
  intro k0 c0 v0 o0 l ih b W A c B d hr hs
  obtain ⟨k1, c1, v1, o1, m⟩ := b
  have hl1 := hr.1
  have hl2 := hs.1
  have ent := enters_of (P := Tryz.prog) Tryz.func18 (by kernel_rfl) rfl
  have HC := fun (w' : World) (h1 : ScRow (· < w'.heap.size) w' A l) (h2 : ScRow (· < w'.heap.size) w' B m) => EqualFunc_c l m _ ent ih w' A c B d h1 h2
  have HCC : Hid _ := HC
  clear HC
  obtain ⟨p0, q0, s0⟩ := v0
  obtain ⟨p1, q1, s1⟩ := v1
  by_cases h0 : k0 = k1
  · by_cases h1 : c0 = c1
    · by_cases h2 : p0 = p1
      · by_cases h3 : q0 = q1
        · by_cases h4 : s0 = s1
          · by_cases h5 : o0 = o1
            · subst h0 h1 h2 h3 h4 h5
              go_enter Tryz.func18, Tryz.ntmps18
              go_wp2_with fail
              refine (HCC.out _ ?_ ?_).mono ?_
              · exact hr.lowE ((Below.refl _ _).alloc (Nat.le_refl _) _ |>.alloc (by simp) _) (by simp; omega)
              · exact hs.lowE ((Below.refl _ _).alloc (Nat.le_refl _) _ |>.alloc (by simp) _) (by simp; omega)
              rintro e w1 ⟨rfl, hb⟩
              have HB1 : Hid (Below W.heap.size W w1) := bt (ba (ba (Below.refl _ _) _) _) hb
              clear hb
              go_wp2_with fail
              go_ret
              exact ⟨ret_bool (by simp), HB1.out⟩
            · subst h0 h1 h2 h3 h4
              have H : Hid _ := h5
              have g1 : (o0 == o1) = false := by simp [h5]
              go_enter Tryz.func18, Tryz.ntmps18
              go_wp2_with fail
              all_goals go_ret
              all_goals exact ⟨ret_bool (by first | rfl | (rw [eq_comm, decide_eq_false_iff_not]; intro e; injection e with e0 e1 e2 e3 e4; exact H.out e3)), ba (ba (Below.refl _ _) _) _⟩
          · subst h0 h1 h2 h3
            have H : Hid _ := h4
            have g1 : ¬ s0.toList = s1.toList := fun e => h4 (tl_inj.1 e)
            have g2 : (s0.toList == s1.toList) = false := by simp [g1]
            go_enter Tryz.func18, Tryz.ntmps18
            go_wp2_with fail
            all_goals go_ret
            all_goals exact ⟨ret_bool (by first | rfl | (rw [eq_comm, decide_eq_false_iff_not]; intro e; injection e with e0 e1 e2 e3 e4; injection e2 with _ _ e2; exact H.out e2)), ba (ba (Below.refl _ _) _) _⟩
        · subst h0 h1 h2
          have H : Hid _ := h3
          have g1 : (q0 == q1) = false := by simp [h3]
          go_enter Tryz.func18, Tryz.ntmps18
          go_wp2_with fail
          all_goals go_ret
          all_goals exact ⟨ret_bool (by first | rfl | (rw [eq_comm, decide_eq_false_iff_not]; intro e; injection e with e0 e1 e2 e3 e4; injection e2 with _ e2 _; exact H.out e2)), ba (ba (Below.refl _ _) _) _⟩
      · subst h0 h1
        have H : Hid _ := h2
        have g1 : (p0 == p1) = false := by simp [h2]
        go_enter Tryz.func18, Tryz.ntmps18
        go_wp2_with fail
        all_goals go_ret
        all_goals exact ⟨ret_bool (by first | rfl | (rw [eq_comm, decide_eq_false_iff_not]; intro e; injection e with e0 e1 e2 e3 e4; injection e2 with e2 _ _; exact H.out e2)), ba (ba (Below.refl _ _) _) _⟩
    · subst h0
      have H : Hid _ := h1
      have g1 : (c0 == c1) = false := by simp [h1]
      go_enter Tryz.func18, Tryz.ntmps18
      go_wp2_with fail
      all_goals go_ret
      all_goals exact ⟨ret_bool (by first | rfl | (rw [eq_comm, decide_eq_false_iff_not]; intro e; injection e with e0 e1 e2 e3 e4; exact H.out e1)), ba (ba (Below.refl _ _) _) _⟩
  · have H : Hid _ := h0
    have g1 : (k0 == k1) = false := by simp [h0]
    go_enter Tryz.func18, Tryz.ntmps18
    go_wp2_with fail
    all_goals go_ret
    all_goals exact ⟨ret_bool (by first | rfl | (rw [eq_comm, decide_eq_false_iff_not]; intro e; injection e with e0 e1 e2 e3 e4; exact H.out e0)), ba (ba (Below.refl _ _) _) _⟩
end Go.Proofs.YtemedepjmnncbaaGreatDoor
