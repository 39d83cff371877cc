import Derived.Test.YtemedepjmnncbaaGreatDoorA4
namespace Go.Proofs.YtemedepjmnncbaaGreatDoor
set_option linter.unusedVariables false
set_option linter.unusedSimpArgs false
open Go.RowKit Pu

theorem ApV.move {S S' : Nat → Prop} {w w' : World} {o : Nat} {v : Value} (h1 : ApV S w o v) (hS : ∀ b, S b → S' b ∧ w'.heap[b]? = w.heap[b]?) : ApV S' w' o v := by
  unfold ApV at h1 ⊢
  rcases h1 with h1 | h1 | h1 | h1 | h1 | h1 | h1 | h1 | ⟨B, k, e, hB, hb, hk⟩
  · exact .inl h1
  · exact .inr (.inl h1)
  · exact .inr (.inr (.inl h1))
  · exact .inr (.inr (.inr (.inl h1)))
  · exact .inr (.inr (.inr (.inr (.inl h1))))
  · exact .inr (.inr (.inr (.inr (.inr (.inl h1)))))
  · exact .inr (.inr (.inr (.inr (.inr (.inr (.inl h1))))))
  · exact .inr (.inr (.inr (.inr (.inr (.inr (.inr (.inl h1)))))))
  · exact .inr (.inr (.inr (.inr (.inr (.inr (.inr (.inr ⟨B, k, e, (hS B hB).1, (hS B hB).2.trans hb, hk⟩)))))))
theorem OpsAt.move {S S' : Nat → Prop} {w w' : World} {g : Nat} (h : OpsAt S w g) (hg : S g) (hS : ∀ b, S b → S' b ∧ w'.heap[b]? = w.heap[b]?) : OpsAt S' w' g := by
  intro o ho
  obtain ⟨v, h1, h2, h3, h4, h5, h6⟩ := h o ho
  have hc : ∀ j, w'.cell? ⟨g, j, none⟩ = w.cell? ⟨g, j, none⟩ := fun j => World.cell?_of_block (w := w) (a := ⟨g, j, none⟩) (hS g hg).2
  exact ⟨v, h1.move hS, (hc _).trans h2, (hc _).trans h3, (hc _).trans h4, (hc _).trans h5, (hc _).trans h6⟩
theorem ApV.form {S : Nat → Prop} {w : World} {o : Nat} {v : Value} (h : ApV S w o v) : ∃ g cap, v = .func (.func g) #[] cap := by
  unfold ApV at h
  rcases h with h | h | h | h | h | h | h | h | ⟨B, k, e, hB, hb, hk⟩
  all_goals first | exact ⟨_, _, h.2⟩ | exact ⟨_, _, e⟩

set_option maxHeartbeats 1000000 in
theorem find_no (o : Int) (w : World) (ho : opIn o = false) (hlo : -9223372036854775808 ≤ o) (hhi : o ≤ 9223372036854775807) : Calls Tryz.prog 90 #[.int .i64 o] w fun e w' =>
    e = .returned (.tuple #[.agg #[.int .i64 0, .int .i64 0, .int .i64 0, .string ⟨#[]⟩, .nilFunc], .bool false]) ∧ Below w.heap.size w w' := by
  by_cases h0 : o < 0
  · go_enter Tryz.func90, Tryz.ntmps90
    go_wp2_with fail
    refine bodyPost_ret (ret2 Tryz.results90 rfl (alloc_at rfl) Tryz.isAgg92 Tryz.sizeOf92) rfl ⟨rfl, ba (Below.refl _ _) _⟩
  · have h1 : 14 ≤ o := by simp [opIn] at ho; omega
    have h0' : 0 ≤ o := by omega
    clear ho
    go_enter Tryz.func90, Tryz.ntmps90
    go_wp2_with fail
    refine (operators_c _).mono ?_
    rintro e w1 ⟨g, rfl, hg1, hg2, hO, hb⟩
    have HB : Hid _ := hb
    have hblk := bk hb (n := w.heap.size) (alloc_at rfl)
    have HK : Hid _ := hblk
    have qc0 := blk_cell hblk 0 rfl
    have qf0 := blk_free hblk 0
    have qc1 := blk_cell hblk 1 rfl
    have qf1 := blk_free hblk 1
    have qc2 := blk_cell hblk 2 rfl
    have qf2 := blk_free hblk 2
    have qc3 := blk_cell hblk 3 rfl
    have qf3 := blk_free hblk 3
    have qc4 := blk_cell hblk 4 rfl
    have qf4 := blk_free hblk 4
    clear hb hblk hO hg1 hg2
    go_wp2_with fail
    rw [set5 HK.out]
    refine bodyPost_ret (ret2 Tryz.results90 rfl (setRow_heap _ _ _ _ _ _ HK.out) Tryz.isAgg92 Tryz.sizeOf92) rfl ⟨rfl, bsr (bt (ba (Below.refl _ _) _) HB.out) (Nat.le_refl _) _⟩
set_option maxHeartbeats 1000000 in
theorem find_yes (n : Nat) (w : World) (hn : n < 14) : Calls Tryz.prog 90 #[.int .i64 (n : Int)] w fun e w' =>
    ∃ v, ApV (fun b => w.heap.size ≤ b ∧ b < w'.heap.size) w' n v ∧ e = .returned (.tuple #[.agg #[.int .i64 (opnd n), .int .i64 (ar (n : Int)), .int .i64 (ores n), .string (symB n), v], .bool true]) ∧ Below w.heap.size w w' := by
  have h0' : (0 : Int) ≤ (n : Int) := by omega
  have h1' : (n : Int) < 14 := by omega
  go_enter Tryz.func90, Tryz.ntmps90
  go_wp2_with fail
  refine (operators_c _).mono ?_
  rintro e w1 ⟨g1, rfl, -, -, -, hb1⟩
  go_wp2_with fail
  refine (operators_c _).mono ?_
  rintro e w2 ⟨g, rfl, hg1, hg2, hO, hb⟩
  have hO2 := hO n hn
  obtain ⟨v, hv, k0, k1, k2, k3, k4⟩ := hO2
  obtain ⟨fg, cap, rfl⟩ := hv.form
  have HV : Hid _ := hv
  have HB : Hid _ := bt hb1 hb
  have hblk := bk (bt hb1 hb) (n := w.heap.size) (alloc_at rfl)
  have HK : Hid _ := hblk
  have qc0 := blk_cell hblk 0 rfl
  have qf0 := blk_free hblk 0
  have qc1 := blk_cell hblk 1 rfl
  have qf1 := blk_free hblk 1
  have qc2 := blk_cell hblk 2 rfl
  have qf2 := blk_free hblk 2
  have qc3 := blk_cell hblk 3 rfl
  have qf3 := blk_free hblk 3
  have qc4 := blk_cell hblk 4 rfl
  have qf4 := blk_free hblk 4
  have HS : Hid (w.heap.size < w1.heap.size) := by have := hb1.size; simp at this; exact this
  clear hb hblk hO hg1 hg2 hb1 hv
  go_wp2_with fail
  rw [set5 HK.out]
  refine bodyPost_ret (ret2 Tryz.results90 rfl (setRow_heap _ _ _ _ _ _ HK.out) Tryz.isAgg92 Tryz.sizeOf92) rfl ⟨_, ApV.move HV.out (fun b hb => ⟨⟨?_, ?_⟩, setRow_other _ _ _ _ ?_⟩), rfl, bsr (bt (ba (Below.refl _ _) _) HB.out) (Nat.le_refl _) _⟩
  · have := HS.out; omega
  · simp; exact hb.2
  · have := HS.out; omega

set_option maxHeartbeats 2000000 in
theorem node_c (x : Sc) (A : Option Addr) (c : Nat) (w : World) (hlo : -9223372036854775808 ≤ x.f3) (hhi : x.f3 ≤ 9223372036854775807) (hl : x.f4.length ≤ 9223372036854775807) : Calls Tryz.prog 53 #[scV x A c] w fun e w' =>
    e = .returned (.bool (node x.f0 x.f1 x.f2 x.f3 x.f4.length)) ∧ Below w.heap.size w w' := by
  obtain ⟨k, cl, ⟨v0, v1, v2⟩, o, l⟩ := x
  dsimp only at hlo hhi hl ⊢
  by_cases h0 : k = 0
  · have h0' : (k == 0) = true := by simp [h0]
    have H0 : Hid _ := h0
    clear h0
    go_enter Tryz.func53, Tryz.ntmps53
    go_wp2_with fail
    refine (vvalid_c ⟨v0, v1, v2⟩ _).mono ?_
    rintro e w1 ⟨rfl, hb⟩
    have HB : Hid _ := hb
    have hblk := bk hb (n := w.heap.size) (alloc_at rfl)
    have qc0 := blk_cell hblk 0 rfl
    have qc1 := blk_cell hblk 1 rfl
    have qc2 := blk_cell hblk 2 rfl
    have qc3 := blk_cell hblk 3 rfl
    have qc4 := blk_cell hblk 4 rfl
    have qc5 := blk_cell hblk 5 rfl
    have qc6 := blk_cell hblk 6 rfl
    clear hb hblk
    go_wp2_with fail
    all_goals go_ret
    all_goals (refine ⟨ret_bool ?_, bt (ba (Below.refl _ _) _) HB.out⟩)
    all_goals (have h0 := H0.out; subst h0; simp_all [node, len0])
  have hk0 : (k == 0) = false := by simp [h0]
  by_cases h1 : k = 1
  · have h1' : (k == 1) = true := by simp [h1]
    have H0 : Hid _ := h1
    clear h1 h0
    go_enter Tryz.func53, Tryz.ntmps53
    go_wp2_with fail
    all_goals go_ret
    all_goals (refine ⟨ret_bool ?_, (ba (Below.refl _ _) _)⟩)
    all_goals (have h0 := H0.out; subst h0; simp_all [node, len0, vz, tl_nil, be])
    all_goals (intro h; exfalso; omega)
  have hk1 : (k == 1) = false := by simp [h1]
  by_cases h2 : k = 2
  · have h2' : (k == 2) = true := by simp [h2]
    have H2 : Hid _ := h2
    clear h2 h1 h0
    go_enter Tryz.func53, Tryz.ntmps53
    go_wp2_with fail
    cases ho : opIn o with
    | true =>
      obtain ⟨n, rfl⟩ : ∃ n : Nat, o = n := ⟨o.toNat, by simp [opIn] at ho; omega⟩
      have hn : n < 14 := by simp [opIn] at ho; omega
      refine (find_yes n _ hn).mono ?_
      rintro e w1 ⟨v, hv, rfl, hb⟩
      obtain ⟨fg, cap, rfl⟩ := hv.form
      have HB : Hid _ := hb
      have hblk := bk hb (n := w.heap.size) (alloc_at rfl)
      have hsz : w.heap.size < w1.heap.size := heap_lt hblk
      have qc0 := blk_cell hblk 0 rfl
      have qc1 := blk_cell hblk 1 rfl
      have qc2 := blk_cell hblk 2 rfl
      have qc3 := blk_cell hblk 3 rfl
      have qc4 := blk_cell hblk 4 rfl
      have qc5 := blk_cell hblk 5 rfl
      have qc6 := blk_cell hblk 6 rfl
      clear hb hblk hv
      have HO : Hid _ := ho
      clear ho
      go_wp2_with fail
      all_goals go_ret
      all_goals (refine ⟨ret_bool ?_, ba (bt (ba (Below.refl _ _) _) HB.out) _⟩)
      all_goals (have h2 := H2.out; have ho := HO.out; subst h2; simp_all [node, vz, tl_nil, be])
      all_goals first | omega | (intro h; exfalso; omega)
    | false =>
      refine (find_no _ _ ho hlo hhi).mono ?_
      rintro e w1 ⟨rfl, hb⟩
      have HB : Hid _ := hb
      have hblk := bk hb (n := w.heap.size) (alloc_at rfl)
      have hsz : w.heap.size < w1.heap.size := heap_lt hblk
      have qc0 := blk_cell hblk 0 rfl
      have qc1 := blk_cell hblk 1 rfl
      have qc2 := blk_cell hblk 2 rfl
      have qc3 := blk_cell hblk 3 rfl
      have qc4 := blk_cell hblk 4 rfl
      have qc5 := blk_cell hblk 5 rfl
      have qc6 := blk_cell hblk 6 rfl
      clear hb hblk
      have HO : Hid _ := ho
      clear ho
      go_wp2_with fail
      all_goals go_ret
      all_goals (refine ⟨ret_bool ?_, ba (bt (ba (Below.refl _ _) _) HB.out) _⟩)
      all_goals (have h2 := H2.out; have ho := HO.out; subst h2; simp [node, ho])
  · have h2' : (k == 2) = false := by simp [h2]
    have HN : Hid (k ≠ 0 ∧ k ≠ 1 ∧ k ≠ 2) := ⟨h0, h1, h2⟩
    clear h0 h1 h2
    go_enter Tryz.func53, Tryz.ntmps53
    go_wp2_with fail
    go_ret
    exact ⟨ret_bool (by unfold node; rw [if_neg HN.out.1, if_neg HN.out.2.1, if_neg HN.out.2.2]), ba (Below.refl _ _) _⟩
end Go.Proofs.YtemedepjmnncbaaGreatDoor
