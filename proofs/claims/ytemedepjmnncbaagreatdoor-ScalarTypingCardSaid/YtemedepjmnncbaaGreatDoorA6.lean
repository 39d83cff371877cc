import Derived.Test.YtemedepjmnncbaaGreatDoorA5
namespace Go.Proofs.YtemedepjmnncbaaGreatDoor
set_option linter.unusedVariables false
set_option linter.unusedSimpArgs false
open Go.RowKit Go.Shelf Pu
/-- Below B0 nothing turns, and no block but those of captured variables and of rows of whole numbers. -/
structure Keep (B0 : Nat) (w w' : World) : Prop where
  below : Below B0 w w'
  keep : ∀ (b : Nat) (cells : Array Value) (t : Nat) (fr : Nat × Nat), w.heap[b]? = some (Obj.cells cells t fr) → t ≠ 3 → t ≠ 4 → t ≠ 42 → w'.heap[b]? = w.heap[b]?
theorem Keep.refl (B : Nat) (w : World) : Keep B w w := ⟨Below.refl _ _, fun _ _ _ _ _ _ _ _ => rfl⟩
theorem Keep.trans {B : Nat} {a b c : World} (h : Keep B a b) (k : Keep B b c) : Keep B a c :=
  ⟨h.below.trans k.below, fun i cells t fr hi h1 h2 h3 => by
    have e := h.keep i cells t fr hi h1 h2 h3
    exact (k.keep i cells t fr (e.trans hi) h1 h2 h3).trans e⟩
theorem Keep.of_below {B : Nat} {w w' : World} (hB : B ≤ w.heap.size) (h : Below w.heap.size w w') : Keep B w w' :=
  ⟨h.mono hB, fun b cells t fr hb _ _ _ => h.block b (Array.getElem?_eq_some_iff.1 hb).1⟩

structure Cb {σ : Type} (g : Nat) (lb : Array Value) (B0 : Nat) (step : σ → Sc → σ × Bool) (I : σ → World → Prop) (bud : σ → Nat) : Prop where
  call : ∀ s x W A c, scW x → 0 < bud s → I s W → B0 ≤ W.heap.size → x.f4.length ≤ c → ScRow (· < B0) W A x.f4 → Calls Tryz.prog g (#[scV x A c] ++ lb) W fun e W' => e = .returned (.bool (step s x).2) ∧ ((step s x).2 = true → I (step s x).1 W') ∧ Keep B0 W W'
  dec : ∀ s x, (step s x).2 = true → bud s ≤ bud (step s x).1 + 1
  add : ∀ s W W', I s W → Below W.heap.size W W' → I s W'
  enters : ∀ args w, (callFunc g args).run Tryz.prog w = .ok (.enter g args) w
mutual
def vis {σ : Type} (step : σ → Sc → σ × Bool) : σ → Sc → σ × Bool
  | s, ⟨k, c, v, o, l⟩ => if (step s ⟨k, c, v, o, l⟩).2 = false then ((step s ⟨k, c, v, o, l⟩).1, false) else viss step (step s ⟨k, c, v, o, l⟩).1 l
def viss {σ : Type} (step : σ → Sc → σ × Bool) : σ → List Sc → σ × Bool
  | s, [] => (s, true)
  | s, x :: l => if (vis step s x).2 = false then ((vis step s x).1, false) else viss step (vis step s x).1 l
end
theorem vis_bud {σ : Type} {step : σ → Sc → σ × Bool} {bud : σ → Nat} (hd : ∀ s x, (step s x).2 = true → bud s ≤ bud (step s x).1 + 1) (t : Sc) : ∀ s, (vis step s t).2 = true → bud s ≤ bud (vis step s t).1 + size t := by
  refine Sc.rec (motive_1 := fun t => ∀ s, (vis step s t).2 = true → bud s ≤ bud (vis step s t).1 + size t) (motive_2 := fun l => ∀ s, (viss step s l).2 = true → bud s ≤ bud (viss step s l).1 + sizes l) ?_ ?_ ?_ t
  · intro k c v o l hl s
    simp only [vis, size]
    cases hs : (step s ⟨k, c, v, o, l⟩).2 with
    | false => simp
    | true =>
      rw [if_neg (by simp)]
      intro h
      have := hl _ h
      have := hd _ _ hs
      omega
  · intro s _; simp [viss, sizes]
  · intro x l hx hl s
    simp only [viss, sizes]
    cases hs : (vis step s x).2 with
    | false => simp
    | true =>
      rw [if_neg (by simp)]
      intro h
      have := hx _ hs
      have := hl _ h
      omega
set_option maxHeartbeats 1000000 in
theorem visit_c {σ : Type} {g : Nat} {lb : Array Value} {B0 : Nat} {step : σ → Sc → σ × Bool} {I : σ → World → Prop} {bud : σ → Nat} (H : Cb g lb B0 step I bud) (t : Sc) :
    ∀ s W A c, scW t → size t ≤ bud s → I s W → B0 ≤ W.heap.size → t.f4.length ≤ c → ScRow (· < B0) W A t.f4 → Calls Tryz.prog 52 #[scV t A c, .func (.func g) #[] lb] W fun e W' => e = .returned (.bool (vis step s t).2) ∧ ((vis step s t).2 = true → I (vis step s t).1 W') ∧ Keep B0 W W' := by
  refine Sc.ind (P := fun t => ∀ s W A c, scW t → size t ≤ bud s → I s W → B0 ≤ W.heap.size → t.f4.length ≤ c → ScRow (· < B0) W A t.f4 → Calls Tryz.prog 52 #[scV t A c, .func (.func g) #[] lb] W fun e W' => e = .returned (.bool (vis step s t).2) ∧ ((vis step s t).2 = true → I (vis step s t).1 W') ∧ Keep B0 W W') ?_ t
  intro k0 c0 v0 o0 l ih s W A c hW hZ hI hB hc hr
  have hZ0 : 0 < bud s := by simp [size] at hZ; omega
  have hZ1 : (step s ⟨k0, c0, v0, o0, l⟩).2 = true → sizes l ≤ bud (step s ⟨k0, c0, v0, o0, l⟩).1 := fun h => by have := H.dec _ _ h; simp [size] at hZ; omega
  have HZ1 : Hid _ := hZ1
  clear hZ1 hZ
  have eg := H.enters
  have hcall := fun W A c => H.call s ⟨k0, c0, v0, o0, l⟩ W A c hW hZ0
  have HD : Hid _ := H.dec
  have hWs : ∀ x ∈ l, scW x := fun x hx => scWs_mem hW.2 hx
  have HWs : Hid _ := hWs
  clear hWs hW
  have hadd := H.add
  go_enter Tryz.func52, Tryz.ntmps52
  go_wp2_with fail
  refine (hcall _ A c (hadd _ _ _ hI (ba (Below.refl _ _) _)) (by simp; omega) hc (hr.below (((Below.refl _ _).alloc (Nat.le_refl _) _).mono hB))).mono ?_
  rintro e W1 ⟨rfl, hI1, hk1⟩
  have hb1 : Keep B0 W W1 := (Keep.of_below hB (ba (Below.refl _ _) _)).trans hk1
  have hblk := hk1.keep W.heap.size _ 26 (0, 0) (heap_alloc_new _ _) (by decide) (by decide) (by decide)
  rw [heap_alloc_new] at hblk
  have hsz : W.heap.size < W1.heap.size := by have := hk1.below.size; simp at this; omega
  cases hst : (step s ⟨k0, c0, v0, o0, l⟩).2 with
  | false =>
    have HS : Hid ((step s ⟨k0, c0, v0, o0, l⟩).2 = false) := hst
    clear hst hblk
    go_wp2_with fail
    go_ret
    simp only [vis, HS.out, if_true]
    exact ⟨rfl, (fun h => by cases h), hb1⟩
  | true =>
    have hcell : W1.cell? ⟨W.heap.size, 6, none⟩ = some (.slice A l.length c) := by unfold World.cell?; rw [hblk]; rfl
    have HS : Hid ((step s ⟨k0, c0, v0, o0, l⟩).2 = true) := hst
    have HB : Hid (W1.heap[W.heap.size]? = some (Obj.cells #[.int .i64 k0, .int .i64 c0, .int .i64 v0.f0, .int .i64 v0.f1, .string v0.f2, .int .i64 o0, .slice A l.length c] 26 (0, 0))) := hblk
    clear hst hblk
    have hlen := hr.1
    replace hI1 := hI1 HS.out
    go_wp2_with fail
    go_loopg [14] l.length (fun gg s14 wr => ∃ kk : Nat, kk ≤ l.length ∧ l.length - kk ≤ gg ∧ s14 = .int .i64 kk ∧ Hid (∃ s', I s' wr ∧ viss step (step s ⟨k0, c0, v0, o0, l⟩).1 l = viss step s' (l.drop kk) ∧ sizes (l.drop kk) ≤ bud s') ∧ Hid (Keep B0 W1 wr))
    case atStart => exact ⟨0, Nat.zero_le _, by omega, rfl, ⟨_, hI1, rfl, HZ1.out HS.out⟩, Keep.refl _ _⟩
    case round =>
      obtain ⟨kk, hkk, hg, rfl, HI, HK⟩ := hrel
      obtain ⟨s', hI', hv, hz⟩ := HI.out
      have HZ : Hid _ := hz
      clear hz
      by_cases hlt : kk < l.length
      · have hx := List.getElem?_eq_getElem hlt
        have hrw : ScRow (· < B0) wr A l := (hr.below (hb1.trans HK.out).below)
        obtain ⟨b, o, A', c', rfl, hbB, hc', hr', e0, e1, e2, e3, e4, e5, e6⟩ := hrw.get hx
        have hih := fun s W A c => ih l[kk] (List.getElem_mem _) s W A c (HWs.out _ (List.getElem_mem _))
        have hdr : sizes (l.drop kk) = size l[kk] + sizes (l.drop (kk + 1)) := by rw [drop_of hx]; rfl
        have HDR : Hid _ := hdr
        clear hdr
        have HV : Hid (viss step (step s ⟨k0, c0, v0, o0, l⟩).1 l = viss step s' (l.drop kk)) := hv
        have HX : Hid (l[kk]? = some l[kk]) := hx
        clear hv hx HI
        generalize l[kk] = x at *
        go_wp2_with fail
        refine (hih s' _ A' c' (by have := HZ.out; have := HDR.out; omega) (hadd _ _ _ hI' (ba (Below.refl _ _) _)) (by have := HK.out.below.size; simp; omega) hc' ?_).mono ?_
        · exact hr'.below (((Below.refl _ _).alloc (Nat.le_refl _) _).mono (by have := HK.out.below.size; omega))
        rintro e W2 ⟨rfl, hI2, hk2⟩
        have hk3 : Keep B0 W1 W2 := HK.out.trans ((Keep.of_below (by have := HK.out.below.size; omega) (ba (Below.refl _ _) _)).trans hk2)
        cases hst : (vis step s' x).2 with
        | false =>
          have HT : Hid ((vis step s' x).2 = false) := hst
          clear hst
          go_wp2_with fail
          go_ret
          have hfin : viss step s' (l.drop kk) = ((vis step s' x).1, false) := by
            rw [drop_of HX.out]; simp [viss, HT.out]
          simp only [vis, HS.out, HV.out, hfin, if_true]
          exact ⟨rfl, (fun h => by cases h), hb1.trans hk3⟩
        | true =>
          have HT : Hid ((vis step s' x).2 = true) := hst
          have hI2' := hI2 hst
          clear hst
          go_wp2_with fail
          go_roundg (l.length - (kk + 1))
          case measure => omega
          case rel =>
            refine ⟨kk + 1, by omega, by omega, by go_num, ⟨_, hI2', ?_⟩, hk3⟩
            have hb := vis_bud HD.out x s' HT.out
            refine ⟨?_, by have := HZ.out; have := HDR.out; omega⟩
            rw [HV.out, drop_of HX.out]; simp [viss, HT.out]
      · have : kk = l.length := by omega
        subst this
        have HV : Hid (viss step (step s ⟨k0, c0, v0, o0, l⟩).1 l = viss step s' (l.drop l.length)) := hv
        clear hv HI
        go_wp2_with fail
        go_ret
        have hfin : viss step (step s ⟨k0, c0, v0, o0, l⟩).1 l = (s', true) := by rw [HV.out]; simp [viss]
        simp only [vis, HS.out, hfin, if_true]
        exact ⟨rfl, (fun _ => hI'), hb1.trans HK.out⟩

/-! fits, Valid. -/
theorem Keep.set {B0 B t : Nat} {w : World} {cs : Array Value} {fr : Nat × Nat} (hb : w.heap[B]? = some (Obj.cells cs t fr)) (ht : t = 3 ∨ t = 4 ∨ t = 42) (hB : B0 ≤ B) (j : Nat) (v : Value) : Keep B0 w (w.setCell ⟨B, j, none⟩ v) :=
  ⟨(Below.refl _ _).setCell hB v, fun b cells t' fr' hb' h1 h2 h3 => Below.heap_setCell _ _ _ _ (by
    rintro rfl
    rw [hb] at hb'
    injection hb' with hb'
    injection hb' with _ hb'
    rcases ht with ht | ht | ht <;> simp_all)⟩
theorem Keep.alloc {B0 : Nat} {a w : World} (h : Keep B0 a w) (hB : B0 ≤ w.heap.size) (o : Obj) : Keep B0 a (w.alloc o) := h.trans (Keep.of_below hB (ba (Below.refl _ _) _))
theorem setCell1 {w : World} {B t : Nat} {x : Value} (hb : w.heap[B]? = some (Obj.cells #[x] t (0, 0))) (v : Value) : (w.setCell ⟨B, 0, none⟩ v).heap[B]? = some (Obj.cells #[v] t (0, 0)) := by
  rw [set1 hb]; exact setRow_heap _ _ _ _ _ _ hb
set_option maxHeartbeats 400000 in
theorem fits1_c (x : Sc) (A : Option Addr) (c : Nat) (B0 B n : Nat) (w : World) (hB : B0 ≤ B) (hn : n ≤ 1000000) (hb : w.heap[B]? = some (Obj.cells #[.int .i64 (n : Int)] 3 (0, 0))) :
    Calls Tryz.prog 89 #[scV x A c, .pointer (some ⟨B, 0, none⟩)] w fun e w' => e = .returned (.bool (decide (n + 1 ≤ 256))) ∧ w'.heap[B]? = some (Obj.cells #[.int .i64 ((n + 1 : Nat) : Int)] 3 (0, 0)) ∧ Keep B0 w w' := by
  have hlt := heap_lt hb
  have c0 := blk_cell hb 0 rfl
  have f0 := blk_free hb 0
  have HB : Hid _ := hb
  clear hb
  go_enter Tryz.func89, Tryz.ntmps89
  go_wp2_with fail
  go_ret
  refine ⟨ret_bool (by simp; omega), ?_, ?_⟩
  · exact alloc_lt (setCell1 HB.out _)
  · exact (Keep.set HB.out (.inl rfl) hB _ _).alloc (by simp; omega) _
def stepN (n : Nat) (_ : Sc) : Nat × Bool := (n + 1, decide (n + 1 ≤ 256))
theorem vis_stepN (x : Sc) : ∀ n, n ≤ 256 → ((vis stepN n x).2 = true ↔ n + size x ≤ 256) ∧ ((vis stepN n x).2 = true → (vis stepN n x).1 = n + size x) := by
  refine Sc.rec (motive_1 := fun x => ∀ n, n ≤ 256 → ((vis stepN n x).2 = true ↔ n + size x ≤ 256) ∧ ((vis stepN n x).2 = true → (vis stepN n x).1 = n + size x))
    (motive_2 := fun l => ∀ n, n ≤ 256 → ((viss stepN n l).2 = true ↔ n + sizes l ≤ 256) ∧ ((viss stepN n l).2 = true → (viss stepN n l).1 = n + sizes l)) ?_ ?_ ?_ x
  · intro k c v o l hl n hn
    simp only [vis, stepN, size]
    by_cases h : n + 1 ≤ 256
    · obtain ⟨h1, h3⟩ := hl (n + 1) h
      simp only [h, decide_true]
      rw [if_neg (by simp)]
      exact ⟨by rw [h1]; omega, fun e => by rw [h3 e]; omega⟩
    · simp only [h, decide_false]
      rw [if_pos trivial]
      exact ⟨by simp; omega, by simp⟩
  · intro n hn; simp [viss, sizes]; omega
  · intro y l hy hl n hn
    obtain ⟨h1, h3⟩ := hy n hn
    simp only [viss, sizes]
    cases hb : (vis stepN n y).2 with
    | false =>
      rw [if_pos rfl]
      rw [hb] at h1
      exact ⟨by simp at h1 ⊢; omega, by simp⟩
    | true =>
      rw [if_neg (by simp)]
      have e := h3 hb
      have hle := h1.1 hb
      obtain ⟨k1, k3⟩ := hl (n + size y) hle
      rw [e]
      exact ⟨by rw [k1]; omega, fun he => by rw [k3 he]; omega⟩
theorem fits_cb (B0 B K : Nat) (hB : B0 ≤ B) : Cb 89 #[.pointer (some ⟨B, 0, none⟩)] B0 stepN (fun n w => n ≤ 256 ∧ w.heap[B]? = some (Obj.cells #[.int .i64 (n : Int)] 3 (0, 0))) (fun _ => K) where
  dec s x _ := Nat.le_succ _
  call s x W A c _ _ hI h0 hc hr := (fits1_c x A c B0 B s W hB (by omega) hI.2).mono fun e w' ⟨h1, h2, h3⟩ => ⟨h1, (fun h => ⟨by simpa [stepN] using h, h2⟩), h3⟩
  add s W W' hI hb := ⟨hI.1, bk hb hI.2⟩
  enters := enters_of Tryz.func89 (by kernel_rfl) rfl
set_option maxHeartbeats 400000 in
theorem fits_c (x : Sc) (A : Option Addr) (c : Nat) (w : World) (hW : scW x) (hc : x.f4.length ≤ c) (hr : ScRow (· < w.heap.size) w A x.f4) :
    Calls Tryz.prog 51 #[scV x A c] w fun e w' => e = .returned (.bool (decide (size x ≤ 256))) ∧ Below w.heap.size w w' := by
  have hmf : ∀ (fn : Fn) (first cap : Array Value) (w : World), (Instr.makeFunc fn first cap).run Tryz.prog w = .ok (.func fn first cap) w := fun _ _ _ _ => rfl
  have hcb := fits_cb w.heap.size (w.heap.size + 1) (size x) (by omega)
  have hv := (vis_stepN x 0 (by omega)).1
  rw [Nat.zero_add] at hv
  have HV : Hid _ := hv
  clear hv
  go_enter Tryz.func51, Tryz.ntmps51
  go_wp2_with fail
  refine (visit_c hcb x 0 _ A c hW (Nat.le_refl _) ⟨by omega, alloc_at (by simp)⟩ (by simp; omega) hc (hr.below ((Below.refl _ _).alloc (Nat.le_refl _) _ |>.alloc (by simp) _))).mono ?_
  rintro e w1 ⟨rfl, -, hk⟩
  go_wp2_with fail
  go_ret
  exact ⟨ret_bool (by rw [Bool.eq_iff_iff, HV.out]; simp), (ba (ba (Below.refl _ _) _) _).trans hk.below⟩
def stepB (_ : Unit) (x : Sc) : Unit × Bool := ((), node x.f0 x.f1 x.f2 x.f3 x.f4.length)
theorem vis_stepB (x : Sc) : (vis stepB () x).2 = okT x := by
  refine Sc.rec (motive_1 := fun x => (vis stepB () x).2 = okT x) (motive_2 := fun l => (viss stepB () l).2 = okTs l) ?_ ?_ ?_ x
  · intro k c v o l hl
    have e : (stepB () ⟨k, c, v, o, l⟩).2 = node k c v o l.length := rfl
    simp only [vis, okT]
    by_cases hn : (stepB () ⟨k, c, v, o, l⟩).2 = false
    · rw [if_pos hn, ← e, hn]; rfl
    · rw [if_neg hn]
      rw [Bool.not_eq_false] at hn
      rw [← e, hn]; simpa using hl
  · rfl
  · intro y l hy hl
    simp only [viss, okTs]
    by_cases hn : (vis stepB () y).2 = false
    · rw [if_pos hn, ← hy, hn]; rfl
    · rw [if_neg hn]
      rw [Bool.not_eq_false] at hn
      rw [← hy, hn]; simpa using hl
theorem node_cb (B0 K : Nat) : Cb 53 #[] B0 stepB (fun _ _ => True) (fun _ => K) where
  dec s x _ := Nat.le_succ _
  call s x W A c hW _ hI h0 hc hr := (node_c x A c W (scW_top hW).2.2.2.2.1 (scW_top hW).2.2.2.2.2 hr.1).mono fun e w' ⟨h1, h2⟩ => ⟨h1, fun _ => trivial, Keep.of_below h0 h2⟩
  add s W W' hI hb := trivial
  enters := enters_of Tryz.func53 (by kernel_rfl) rfl
set_option maxHeartbeats 400000 in
theorem valid_c (x : Sc) (A : Option Addr) (c : Nat) (w : World) (hW : scW x) (hc : x.f4.length ≤ c) (hr : ScRow (· < w.heap.size) w A x.f4) :
    Calls Tryz.prog 16 #[scV x A c] w fun e w' => e = .returned (.bool (valid x)) ∧ Below w.heap.size w w' := by
  have hcb := node_cb w.heap.size (size x)
  go_enter Tryz.func16, Tryz.ntmps16
  go_wp2_with fail
  refine (fits_c x A c _ hW hc ((hr.below ((Below.refl _ _).alloc (Nat.le_refl _) _)).move fun b hb => ⟨by simp; omega, rfl⟩)).mono ?_
  rintro e w1 ⟨rfl, hb⟩
  have hblk := bk hb (n := w.heap.size) (alloc_at rfl)
  have HB : Hid (Below w.heap.size w w1) := bt (ba (Below.refl _ _) _) hb
  have hr1 := hr.below HB.out
  have qc0 := blk_cell hblk 0 rfl
  have qc1 := blk_cell hblk 1 rfl
  have qc2 := blk_cell hblk 2 rfl
  have qc3 := blk_cell hblk 3 rfl
  have qc4 := blk_cell hblk 4 rfl
  have qc5 := blk_cell hblk 5 rfl
  have qc6 := blk_cell hblk 6 rfl
  clear hb hblk
  by_cases hs : size x ≤ 256
  · have HS : Hid (size x ≤ 256) := hs
    simp only [hs, decide_true]
    clear hs
    go_wp2_with fail
    refine (visit_c hcb x () _ A c hW (Nat.le_refl _) trivial HB.out.size hc hr1).mono ?_
    rintro e w2 ⟨rfl, -, hk⟩
    go_wp2_with fail
    go_ret
    exact ⟨ret_bool (by rw [vis_stepB]; simp [valid, HS.out]), HB.out.trans hk.below⟩
  · have HS : Hid (¬ size x ≤ 256) := hs
    simp only [hs, decide_false]
    clear hs
    go_wp2_with fail
    go_ret
    exact ⟨ret_bool (by simp [valid, HS.out]), HB.out⟩
end Go.Proofs.YtemedepjmnncbaaGreatDoor
