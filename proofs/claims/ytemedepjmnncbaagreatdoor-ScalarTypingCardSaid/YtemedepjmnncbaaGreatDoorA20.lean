import Derived.Test.YtemedepjmnncbaaGreatDoorA19
import Derived.Test.YtemedepjmnncbaaGreatDoorA16
import Derived.Test.YtemedepjmnncbaaGreatDoorA13
namespace Go.Proofs.YtemedepjmnncbaaGreatDoor
set_option linter.unusedVariables false
set_option linter.unusedSimpArgs false
open Go.RowKit Go.Shelf Pu
theorem two_row {S : Nat → Prop} {w : World} {m t : Nat} {fr : Nat × Nat} {x y : Sc} {Ax Ay : Option Addr} {cx cy : Nat}
    (hb : w.heap[m]? = some (Obj.cells #[.int .i64 x.f0, .int .i64 x.f1, .int .i64 x.f2.f0, .int .i64 x.f2.f1, .string x.f2.f2, .int .i64 x.f3, .slice Ax x.f4.length cx, .int .i64 y.f0, .int .i64 y.f1, .int .i64 y.f2.f0, .int .i64 y.f2.f1, .string y.f2.f2, .int .i64 y.f3, .slice Ay y.f4.length cy] t fr))
    (hS : S m) (hx : x.f4.length ≤ cx) (hrx : ScRow S w Ax x.f4) (hy : y.f4.length ≤ cy) (hry : ScRow S w Ay y.f4) : ScRow S w (some ⟨m, 0, none⟩) [x, y] := by
  refine ⟨by simp, .inr ⟨m, 0, rfl, hS, ⟨_, scR_mk hx hrx, fun j u hj => ?_⟩, ⟨_, scR_mk hy hry, fun j u hj => ?_⟩, trivial⟩⟩
  · have : j < 7 := (List.getElem?_eq_some_iff.1 hj).1
    have hc : j = 0 ∨ j = 1 ∨ j = 2 ∨ j = 3 ∨ j = 4 ∨ j = 5 ∨ j = 6 := by omega
    rcases hc with rfl | rfl | rfl | rfl | rfl | rfl | rfl <;> (injection hj with hj; subst hj; exact blk_cell hb _ rfl)
  · have : j < 7 := (List.getElem?_eq_some_iff.1 hj).1
    have hc : j = 0 ∨ j = 1 ∨ j = 2 ∨ j = 3 ∨ j = 4 ∨ j = 5 ∨ j = 6 := by omega
    rcases hc with rfl | rfl | rfl | rfl | rfl | rfl | rfl <;> (injection hj with hj; subst hj; exact blk_cell hb _ rfl)
def awN (i : Int) : Sc := ⟨0, 0, ⟨0, i, ⟨#[]⟩⟩, 0, []⟩
def awR : Sc := ⟨1, 0, ⟨0, 0, ⟨#[]⟩⟩, 0, []⟩
def awT : Sc := ⟨0, 0, ⟨2, 1, ⟨#[]⟩⟩, 0, []⟩
def awE : Sc := ⟨2, 0, ⟨0, 0, ⟨#[]⟩⟩, 0, [awR, awN 1]⟩
def awP : Sc := ⟨2, 0, ⟨0, 0, ⟨#[]⟩⟩, 0, [awN 1, awN 2]⟩
def awL : Sc := ⟨2, 0, ⟨0, 0, ⟨#[]⟩⟩, 7, [awR, awP]⟩
def awF : Sc := ⟨2, 0, ⟨0, 0, ⟨#[]⟩⟩, 11, [awT, awL]⟩
def awG : Sc := ⟨2, 0, ⟨0, 0, ⟨#[]⟩⟩, 7, [awR, awN 3]⟩
theorem awE_type : TypeP [⟨⟨#[97]⟩, 0⟩] awE = (0, 0) := by rfl
theorem awE_eval : Eval ltB [⟨0, 41, ⟨#[]⟩⟩] awE = ⟨0, 42, ⟨#[]⟩⟩ := by rfl
theorem awE_text : FormatP awE = [40, 35, 48, 32, 43, 32, 49, 41] := by
  rw [FormatP, if_pos (by rfl)]
  simp [awE, awR, awN, text, texts, fmtV, itoa, sym, dig]
theorem awF_fold : FoldP awF = awG := by rfl
theorem awG_text : FormatP awG = [40, 35, 48, 32, 60, 32, 51, 41] := by
  rw [FormatP, if_pos (by rfl)]
  simp [awG, awR, awN, text, texts, fmtV, itoa, sym, dig]
theorem awE_w : scW awE := by simp [awE, awR, awN, scW, scWs, inR]
theorem awF_w : scW awF := by simp [awF, awT, awL, awP, awR, awN, scW, scWs, inR]
theorem awG_w : scW awG := by simp [awG, awR, awN, scW, scWs, inR]
structure AwA (W0 W : World)  (L : Nat → Prop) (m : Nat) (k : Nat) (x4 x9 x10 x11 x12 x13 x14 : Value) : Prop where
  bel : Below W0.heap.size W0 W
  f0 : L 0 → x9 = .func (.func 44) #[] #[]
  f1 : L 1 → x10 = .agg #[.int .i64 1, .int .i64 0, .int .i64 0, .int .i64 0, .string ⟨#[]⟩, .int .i64 0, .slice none 0 0]
  f2 : L 2 → x11 = .func (.func 43) #[] #[]
  f3 : L 3 → x12 = .agg #[.int .i64 0, .int .i64 0, .int .i64 0, .int .i64 1, .string ⟨#[]⟩, .int .i64 0, .slice none 0 0]
  f4 : L 4 → x13 = .slice (some ⟨m, 0, none⟩) 2 2
  f5 : L 5 → x14 = .agg #[.int .i64 2, .int .i64 0, .int .i64 0, .int .i64 0, .string ⟨#[]⟩, .int .i64 0, .slice (some ⟨m, 0, none⟩) 2 2]
  f6 : L 6 → x4 = .pointer (some ⟨k, 0, none⟩)
  hm : L 4 → W.heap[m]? = some (Obj.cells #[.int .i64 1, .int .i64 0, .int .i64 0, .int .i64 0, .string ⟨#[]⟩, .int .i64 0, .slice none 0 0, .int .i64 0, .int .i64 0, .int .i64 0, .int .i64 1, .string ⟨#[]⟩, .int .i64 0, .slice none 0 0] 26 (0, 0))
  kl : L 6 → k < W.heap.size
  ba : L 6 → ¬ L 7 → W.heap[k]? = some (Obj.cells #[.int .i64 0, .int .i64 0, .int .i64 0, .int .i64 0, .string ⟨#[]⟩, .int .i64 0, .slice none 0 0] 26 (0, 0))
  fil : L 7 → W.heap[k]? = some (Obj.cells #[.int .i64 2, .int .i64 0, .int .i64 0, .int .i64 0, .string ⟨#[]⟩, .int .i64 0, .slice (some ⟨m, 0, none⟩) 2 2] 26 (0, 0))
  dhm : L 4 → L 6 → m ≠ k
  kw : L 6 → W0.heap.size ≤ k
  c5_4 : L 5 → L 4
  c7_4 : L 7 → L 4
  c7_6 : L 7 → L 6
def AwAI (W0 : World)  (a0 : Act) (listed : Array Bool) (a : Act) (W : World) : Prop :=
  ∃ m k x4 x9 x10 x11 x12 x13 x14, a = { tmps := (((((((a0.tmps.setIfInBounds 4 x4).setIfInBounds 9 x9).setIfInBounds 10 x10).setIfInBounds 11 x11).setIfInBounds 12 x12).setIfInBounds 13 x13).setIfInBounds 14 x14), defers := [] } ∧ AwA W0 W  (fun j => listed.getD j false = true) m k x4 x9 x10 x11 x12 x13 x14
structure AwB (W0 W : World)  (L : Nat → Prop) (m1 : Nat) (m2 : Nat) (m3 : Nat) (kf : Nat) (x7 x22 x23 x24 x25 x26 x27 x28 x29 x30 x31 x32 x33 x34 x35 x36 x37 : Value) : Prop where
  bel : Below W0.heap.size W0 W
  f0 : L 0 → x22 = .func (.func 44) #[] #[]
  f1 : L 1 → x23 = .agg #[.int .i64 2, .int .i64 1, .string ⟨#[]⟩]
  f2 : L 2 → x24 = .agg #[.int .i64 0, .int .i64 0, .int .i64 2, .int .i64 1, .string ⟨#[]⟩, .int .i64 0, .slice none 0 0]
  f3 : L 3 → x25 = .func (.func 44) #[] #[]
  f4 : L 4 → x26 = .agg #[.int .i64 1, .int .i64 0, .int .i64 0, .int .i64 0, .string ⟨#[]⟩, .int .i64 0, .slice none 0 0]
  f5 : L 5 → x27 = .func (.func 44) #[] #[]
  f6 : L 6 → x28 = .func (.func 43) #[] #[]
  f7 : L 7 → x29 = .agg #[.int .i64 0, .int .i64 0, .int .i64 0, .int .i64 1, .string ⟨#[]⟩, .int .i64 0, .slice none 0 0]
  f8 : L 8 → x30 = .func (.func 43) #[] #[]
  f9 : L 9 → x31 = .agg #[.int .i64 0, .int .i64 0, .int .i64 0, .int .i64 2, .string ⟨#[]⟩, .int .i64 0, .slice none 0 0]
  f10 : L 10 → x32 = .slice (some ⟨m1, 0, none⟩) 2 2
  f11 : L 11 → x33 = .agg #[.int .i64 2, .int .i64 0, .int .i64 0, .int .i64 0, .string ⟨#[]⟩, .int .i64 0, .slice (some ⟨m1, 0, none⟩) 2 2]
  f12 : L 12 → x34 = .slice (some ⟨m2, 0, none⟩) 2 2
  f13 : L 13 → x35 = .agg #[.int .i64 2, .int .i64 0, .int .i64 0, .int .i64 0, .string ⟨#[]⟩, .int .i64 7, .slice (some ⟨m2, 0, none⟩) 2 2]
  f14 : L 14 → x36 = .slice (some ⟨m3, 0, none⟩) 2 2
  f15 : L 15 → x37 = .agg #[.int .i64 2, .int .i64 0, .int .i64 0, .int .i64 0, .string ⟨#[]⟩, .int .i64 11, .slice (some ⟨m3, 0, none⟩) 2 2]
  f16 : L 16 → x7 = .pointer (some ⟨kf, 0, none⟩)
  g1 : L 10 → W.heap[m1]? = some (Obj.cells #[.int .i64 0, .int .i64 0, .int .i64 0, .int .i64 1, .string ⟨#[]⟩, .int .i64 0, .slice none 0 0, .int .i64 0, .int .i64 0, .int .i64 0, .int .i64 2, .string ⟨#[]⟩, .int .i64 0, .slice none 0 0] 26 (0, 0))
  g2 : L 12 → W.heap[m2]? = some (Obj.cells #[.int .i64 1, .int .i64 0, .int .i64 0, .int .i64 0, .string ⟨#[]⟩, .int .i64 0, .slice none 0 0, .int .i64 2, .int .i64 0, .int .i64 0, .int .i64 0, .string ⟨#[]⟩, .int .i64 0, .slice (some ⟨m1, 0, none⟩) 2 2] 26 (0, 0))
  g3 : L 14 → W.heap[m3]? = some (Obj.cells #[.int .i64 0, .int .i64 0, .int .i64 2, .int .i64 1, .string ⟨#[]⟩, .int .i64 0, .slice none 0 0, .int .i64 2, .int .i64 0, .int .i64 0, .int .i64 0, .string ⟨#[]⟩, .int .i64 7, .slice (some ⟨m2, 0, none⟩) 2 2] 26 (0, 0))
  kl : L 16 → kf < W.heap.size
  ba : L 16 → ¬ L 17 → W.heap[kf]? = some (Obj.cells #[.int .i64 0, .int .i64 0, .int .i64 0, .int .i64 0, .string ⟨#[]⟩, .int .i64 0, .slice none 0 0] 26 (0, 0))
  fil : L 17 → W.heap[kf]? = some (Obj.cells #[.int .i64 2, .int .i64 0, .int .i64 0, .int .i64 0, .string ⟨#[]⟩, .int .i64 11, .slice (some ⟨m3, 0, none⟩) 2 2] 26 (0, 0))
  dg1 : L 10 → L 16 → m1 ≠ kf
  dg2 : L 12 → L 16 → m2 ≠ kf
  dg3 : L 14 → L 16 → m3 ≠ kf
  kw : L 16 → W0.heap.size ≤ kf
  c11_10 : L 11 → L 10
  c12_10 : L 12 → L 10
  c13_12 : L 13 → L 12
  c14_12 : L 14 → L 12
  c15_14 : L 15 → L 14
  c17_14 : L 17 → L 14
  c17_16 : L 17 → L 16
def AwBI (W0 : World)  (a0 : Act) (listed : Array Bool) (a : Act) (W : World) : Prop :=
  ∃ m1 m2 m3 kf x7 x22 x23 x24 x25 x26 x27 x28 x29 x30 x31 x32 x33 x34 x35 x36 x37, a = { tmps := (((((((((((((((((a0.tmps.setIfInBounds 7 x7).setIfInBounds 22 x22).setIfInBounds 23 x23).setIfInBounds 24 x24).setIfInBounds 25 x25).setIfInBounds 26 x26).setIfInBounds 27 x27).setIfInBounds 28 x28).setIfInBounds 29 x29).setIfInBounds 30 x30).setIfInBounds 31 x31).setIfInBounds 32 x32).setIfInBounds 33 x33).setIfInBounds 34 x34).setIfInBounds 35 x35).setIfInBounds 36 x36).setIfInBounds 37 x37), defers := [] } ∧ AwB W0 W  (fun j => listed.getD j false = true) m1 m2 m3 kf x7 x22 x23 x24 x25 x26 x27 x28 x29 x30 x31 x32 x33 x34 x35 x36 x37
set_option maxRecDepth 100000 in
set_option maxHeartbeats 8000000 in
theorem awake_c (w : World) (hE : Env w) : Calls Tryz.prog 12 #[] w fun e w' => e = .returned (.bool true) ∧ Below w.heap.size w w' := by
  have HE : Hid _ := hE
  clear hE
  have ent1 := enters_of (P := Tryz.prog) Tryz.func43 (by kernel_rfl) rfl
  have ent2 := enters_of (P := Tryz.prog) Tryz.func44 (by kernel_rfl) rfl
  go_enter Tryz.func12, Tryz.ntmps12
  go_wp2_with fail
  have HC : Hid _ := alloc_at (W := w) (o := Obj.cells #[.int .i64 1, .int .i64 0, .int .i64 0, .int .i64 0, .string ⟨#[]⟩, .int .i64 0, .slice none 0 0] 26) rfl
  have HB1 : Hid (Below w.heap.size w (w.alloc (Obj.cells #[.int .i64 1, .int .i64 0, .int .i64 0, .int .i64 0, .string ⟨#[]⟩, .int .i64 0, .slice none 0 0] 26))) := ba (Below.refl _ _) _
  generalize w.alloc (Obj.cells #[.int .i64 1, .int .i64 0, .int .i64 0, .int .i64 0, .string ⟨#[]⟩, .int .i64 0, .slice none 0 0] 26) = W1 at HC HB1 ⊢
  refine wp_region_inv2 (by kernel_rfl) (AwAI W1 ) (by kernel_rfl) ?_ ?_ ?_
  · refine ⟨0, 0, undef, undef, undef, undef, undef, undef, undef, ?_, ?_⟩
    · simp only [List.setIfInBounds_toArray, List.set_cons_succ, List.set_cons_zero]
    · constructor
      · exact bd (Below.refl _ _)
      all_goals (intro h; simp at h)
  · intro listed a' WW hsz hI i hi
    obtain ⟨hi0, oj, hoj, hall⟩ := mem_ready.1 hi
    have hlt2 : i < 8 := (Array.getElem?_eq_some_iff.1 hoj).1
    obtain ⟨m, k, x4, x9, x10, x11, x12, x13, x14, rfl, hx⟩ := hI
    have hcs : i = 0 ∨ i = 1 ∨ i = 2 ∨ i = 3 ∨ i = 4 ∨ i = 5 ∨ i = 6 ∨ i = 7 := by omega
    clear hlt2
    rcases hcs with rfl | rfl | rfl | rfl | rfl | rfl | rfl | rfl
    · have hJ := hoj
      simp at hJ
      have HX : Hid _ := hx
      have HI0 : Hid _ := hi0
      clear hx hall hoj hJ hi hi0
      simp only [List.setIfInBounds_toArray, List.set_cons_succ, List.set_cons_zero]
      refine wpOp_step (o := _) rfl fun K' hK => ?_
      rw [if_pos (by kernel_rfl)]
      have HK9 : Hid _ := hK
      clear hK
      go_wp2_with fail
      exact HK9.out _ _ ⟨m, k, x4, .func (.func 44) #[] #[], x10, x11, x12, x13, x14, by simp only [Act.put, List.setIfInBounds_toArray, List.set_cons_succ, List.set_cons_zero], ⟨HX.out.bel, fun _ => rfl, fun h => HX.out.f1 (lset h (by decide)), fun h => HX.out.f2 (lset h (by decide)), fun h => HX.out.f3 (lset h (by decide)), fun h => HX.out.f4 (lset h (by decide)), fun h => HX.out.f5 (lset h (by decide)), fun h => HX.out.f6 (lset h (by decide)), fun h => HX.out.hm (lset h (by decide)), fun h => HX.out.kl (lset h (by decide)), fun h h' => HX.out.ba (lset h (by decide)) (fun h2 => h' (getD_set_true h2)), fun h => HX.out.fil (lset h (by decide)), fun h h' => HX.out.dhm (lset h (by decide)) (lset h' (by decide)), fun h => HX.out.kw (lset h (by decide)), fun h => getD_set_true (HX.out.c5_4 (lset h (by decide))), fun h => getD_set_true (HX.out.c7_4 (lset h (by decide))), fun h => getD_set_true (HX.out.c7_6 (lset h (by decide)))⟩⟩
    · have hJ := hoj
      simp at hJ
      have hz := bk hx.bel HC.out
      have zc0 := blk_cell hz 0 rfl
      have zc1 := blk_cell hz 1 rfl
      have zc2 := blk_cell hz 2 rfl
      have zc3 := blk_cell hz 3 rfl
      have zc4 := blk_cell hz 4 rfl
      have zc5 := blk_cell hz 5 rfl
      have zc6 := blk_cell hz 6 rfl
      clear hz
      have HX : Hid _ := hx
      have HI0 : Hid _ := hi0
      clear hx hall hoj hJ hi hi0
      simp only [List.setIfInBounds_toArray, List.set_cons_succ, List.set_cons_zero]
      refine wpOp_step (o := _) rfl fun K' hK => ?_
      rw [if_pos (by kernel_rfl)]
      have HK9 : Hid _ := hK
      clear hK
      go_wp2_with fail
      exact HK9.out _ _ ⟨m, k, x4, x9, .agg #[.int .i64 1, .int .i64 0, .int .i64 0, .int .i64 0, .string ⟨#[]⟩, .int .i64 0, .slice none 0 0], x11, x12, x13, x14, by simp only [Act.put, List.setIfInBounds_toArray, List.set_cons_succ, List.set_cons_zero], ⟨HX.out.bel, fun h => HX.out.f0 (lset h (by decide)), fun _ => rfl, fun h => HX.out.f2 (lset h (by decide)), fun h => HX.out.f3 (lset h (by decide)), fun h => HX.out.f4 (lset h (by decide)), fun h => HX.out.f5 (lset h (by decide)), fun h => HX.out.f6 (lset h (by decide)), fun h => HX.out.hm (lset h (by decide)), fun h => HX.out.kl (lset h (by decide)), fun h h' => HX.out.ba (lset h (by decide)) (fun h2 => h' (getD_set_true h2)), fun h => HX.out.fil (lset h (by decide)), fun h h' => HX.out.dhm (lset h (by decide)) (lset h' (by decide)), fun h => HX.out.kw (lset h (by decide)), fun h => getD_set_true (HX.out.c5_4 (lset h (by decide))), fun h => getD_set_true (HX.out.c7_4 (lset h (by decide))), fun h => getD_set_true (HX.out.c7_6 (lset h (by decide)))⟩⟩
    · have hJ := hoj
      simp at hJ
      have HX : Hid _ := hx
      have HI0 : Hid _ := hi0
      clear hx hall hoj hJ hi hi0
      simp only [List.setIfInBounds_toArray, List.set_cons_succ, List.set_cons_zero]
      refine wpOp_step (o := _) rfl fun K' hK => ?_
      rw [if_pos (by kernel_rfl)]
      have HK9 : Hid _ := hK
      clear hK
      go_wp2_with fail
      exact HK9.out _ _ ⟨m, k, x4, x9, x10, .func (.func 43) #[] #[], x12, x13, x14, by simp only [Act.put, List.setIfInBounds_toArray, List.set_cons_succ, List.set_cons_zero], ⟨HX.out.bel, fun h => HX.out.f0 (lset h (by decide)), fun h => HX.out.f1 (lset h (by decide)), fun _ => rfl, fun h => HX.out.f3 (lset h (by decide)), fun h => HX.out.f4 (lset h (by decide)), fun h => HX.out.f5 (lset h (by decide)), fun h => HX.out.f6 (lset h (by decide)), fun h => HX.out.hm (lset h (by decide)), fun h => HX.out.kl (lset h (by decide)), fun h h' => HX.out.ba (lset h (by decide)) (fun h2 => h' (getD_set_true h2)), fun h => HX.out.fil (lset h (by decide)), fun h h' => HX.out.dhm (lset h (by decide)) (lset h' (by decide)), fun h => HX.out.kw (lset h (by decide)), fun h => getD_set_true (HX.out.c5_4 (lset h (by decide))), fun h => getD_set_true (HX.out.c7_4 (lset h (by decide))), fun h => getD_set_true (HX.out.c7_6 (lset h (by decide)))⟩⟩
    · have hJ := hoj
      simp at hJ
      have l2 : listed.getD 2 false = true := hall ⟨2, .data⟩ (by subst hJ; simp) rfl
      obtain rfl := hx.f2 l2
      have HX : Hid _ := hx
      have HI0 : Hid _ := hi0
      clear hx hall hoj hJ hi hi0
      simp only [List.setIfInBounds_toArray, List.set_cons_succ, List.set_cons_zero]
      refine wpOp_step (o := _) rfl fun K' hK => ?_
      rw [if_pos (by kernel_rfl)]
      have HK9 : Hid _ := hK
      clear hK
      go_wp2_with fail
      refine (awk1_c _ _).mono ?_
      rintro e w1 ⟨rfl, hb⟩
      have HBX : Hid _ := hb
      clear hb
      go_wp2_with fail
      exact HK9.out _ _ ⟨m, k, x4, x9, x10, .func (.func 43) #[] #[], .agg #[.int .i64 0, .int .i64 0, .int .i64 0, .int .i64 1, .string ⟨#[]⟩, .int .i64 0, .slice none 0 0], x13, x14, by simp only [Act.put, List.setIfInBounds_toArray, List.set_cons_succ, List.set_cons_zero], ⟨bt HX.out.bel HBX.out, fun h => HX.out.f0 (lset h (by decide)), fun h => HX.out.f1 (lset h (by decide)), fun h => HX.out.f2 (lset h (by decide)), fun _ => rfl, fun h => HX.out.f4 (lset h (by decide)), fun h => HX.out.f5 (lset h (by decide)), fun h => HX.out.f6 (lset h (by decide)), fun h => bk HBX.out (HX.out.hm (lset h (by decide))), fun h => Nat.lt_of_lt_of_le (HX.out.kl (lset h (by decide))) (Below.size HBX.out), fun h h' => bk HBX.out (HX.out.ba (lset h (by decide)) (fun h2 => h' (getD_set_true h2))), fun h => bk HBX.out (HX.out.fil (lset h (by decide))), fun h h' => HX.out.dhm (lset h (by decide)) (lset h' (by decide)), fun h => HX.out.kw (lset h (by decide)), fun h => getD_set_true (HX.out.c5_4 (lset h (by decide))), fun h => getD_set_true (HX.out.c7_4 (lset h (by decide))), fun h => getD_set_true (HX.out.c7_6 (lset h (by decide)))⟩⟩
    · have hJ := hoj
      simp at hJ
      have l1 : listed.getD 1 false = true := hall ⟨1, .data⟩ (by subst hJ; simp) rfl
      have l3 : listed.getD 3 false = true := hall ⟨3, .data⟩ (by subst hJ; simp) rfl
      obtain rfl := hx.f1 l1
      obtain rfl := hx.f3 l3
      have HX : Hid _ := hx
      have HI0 : Hid _ := hi0
      clear hx hall hoj hJ hi hi0
      simp only [List.setIfInBounds_toArray, List.set_cons_succ, List.set_cons_zero]
      refine wpOp_step (o := _) rfl fun K' hK => ?_
      rw [if_pos (by kernel_rfl)]
      have HK9 : Hid _ := hK
      clear hK
      go_wp2_with fail
      exact HK9.out _ _ ⟨WW.heap.size, k, x4, x9, .agg #[.int .i64 1, .int .i64 0, .int .i64 0, .int .i64 0, .string ⟨#[]⟩, .int .i64 0, .slice none 0 0], x11, .agg #[.int .i64 0, .int .i64 0, .int .i64 0, .int .i64 1, .string ⟨#[]⟩, .int .i64 0, .slice none 0 0], .slice (some ⟨WW.heap.size, 0, none⟩) 2 2, x14, by simp only [Act.put, List.setIfInBounds_toArray, List.set_cons_succ, List.set_cons_zero], ⟨bt HX.out.bel (ba (Below.refl _ _) _), fun h => HX.out.f0 (lset h (by decide)), fun h => HX.out.f1 (lset h (by decide)), fun h => HX.out.f2 (lset h (by decide)), fun h => HX.out.f3 (lset h (by decide)), fun _ => rfl, fun h => absurd (HX.out.c5_4 (lset h (by decide))) (by rw [getD_both HI0.out]; decide), fun h => HX.out.f6 (lset h (by decide)), fun _ => alloc_at rfl, fun h => Nat.lt_of_lt_of_le (HX.out.kl (lset h (by decide))) (Below.size (ba (Below.refl _ _) _)), fun h h' => bk (ba (Below.refl _ _) _) (HX.out.ba (lset h (by decide)) (fun h2 => h' (getD_set_true h2))), fun h => absurd (HX.out.c7_4 (lset h (by decide))) (by rw [getD_both HI0.out]; decide), fun _ h => Nat.ne_of_gt (HX.out.kl (lset h (by decide))), fun h => HX.out.kw (lset h (by decide)), fun h => getD_set_true (HX.out.c5_4 (lset h (by decide))), fun h => getD_set_true (HX.out.c7_4 (lset h (by decide))), fun h => getD_set_true (HX.out.c7_6 (lset h (by decide)))⟩⟩
    · have hJ := hoj
      simp at hJ
      have l0 : listed.getD 0 false = true := hall ⟨0, .data⟩ (by subst hJ; simp) rfl
      have l4 : listed.getD 4 false = true := hall ⟨4, .data⟩ (by subst hJ; simp) rfl
      obtain rfl := hx.f0 l0
      obtain rfl := hx.f4 l4
      have HX : Hid _ := hx
      have HI0 : Hid _ := hi0
      clear hx hall hoj hJ hi hi0
      simp only [List.setIfInBounds_toArray, List.set_cons_succ, List.set_cons_zero]
      refine wpOp_step (o := _) rfl fun K' hK => ?_
      rw [if_pos (by kernel_rfl)]
      have HK9 : Hid _ := hK
      clear hK
      go_wp2_with fail
      refine (awk2_c _ _ _ _ _).mono ?_
      rintro e w1 ⟨rfl, hb⟩
      have HBX : Hid _ := hb
      clear hb
      go_wp2_with fail
      exact HK9.out _ _ ⟨m, k, x4, .func (.func 44) #[] #[], x10, x11, x12, .slice (some ⟨m, 0, none⟩) 2 2, .agg #[.int .i64 2, .int .i64 0, .int .i64 0, .int .i64 0, .string ⟨#[]⟩, .int .i64 0, .slice (some ⟨m, 0, none⟩) 2 2], by simp only [Act.put, List.setIfInBounds_toArray, List.set_cons_succ, List.set_cons_zero], ⟨bt HX.out.bel HBX.out, fun h => HX.out.f0 (lset h (by decide)), fun h => HX.out.f1 (lset h (by decide)), fun h => HX.out.f2 (lset h (by decide)), fun h => HX.out.f3 (lset h (by decide)), fun h => HX.out.f4 (lset h (by decide)), fun _ => rfl, fun h => HX.out.f6 (lset h (by decide)), fun h => bk HBX.out (HX.out.hm (lset h (by decide))), fun h => Nat.lt_of_lt_of_le (HX.out.kl (lset h (by decide))) (Below.size HBX.out), fun h h' => bk HBX.out (HX.out.ba (lset h (by decide)) (fun h2 => h' (getD_set_true h2))), fun h => bk HBX.out (HX.out.fil (lset h (by decide))), fun h h' => HX.out.dhm (lset h (by decide)) (lset h' (by decide)), fun h => HX.out.kw (lset h (by decide)), fun _ => getD_set_true l4, fun h => getD_set_true (HX.out.c7_4 (lset h (by decide))), fun h => getD_set_true (HX.out.c7_6 (lset h (by decide)))⟩⟩
    · have hJ := hoj
      simp at hJ
      have HX : Hid _ := hx
      have HI0 : Hid _ := hi0
      clear hx hall hoj hJ hi hi0
      simp only [List.setIfInBounds_toArray, List.set_cons_succ, List.set_cons_zero]
      refine wpOp_step (o := _) rfl fun K' hK => ?_
      rw [if_pos (by kernel_rfl)]
      have HK9 : Hid _ := hK
      clear hK
      go_wp2_with fail
      exact HK9.out _ _ ⟨m, WW.heap.size, .pointer (some ⟨WW.heap.size, 0, none⟩), x9, x10, x11, x12, x13, x14, by simp only [Act.put, List.setIfInBounds_toArray, List.set_cons_succ, List.set_cons_zero], ⟨bt HX.out.bel (ba (Below.refl _ _) _), fun h => HX.out.f0 (lset h (by decide)), fun h => HX.out.f1 (lset h (by decide)), fun h => HX.out.f2 (lset h (by decide)), fun h => HX.out.f3 (lset h (by decide)), fun h => HX.out.f4 (lset h (by decide)), fun h => HX.out.f5 (lset h (by decide)), fun _ => rfl, fun h => bk (ba (Below.refl _ _) _) (HX.out.hm (lset h (by decide))), fun _ => by simp, fun _ _ => alloc_at rfl, fun h => absurd (HX.out.c7_6 (lset h (by decide))) (by rw [getD_both HI0.out]; decide), fun h _ => Nat.ne_of_lt (heap_lt (HX.out.hm (lset h (by decide)))), fun _ => HX.out.bel.size, fun h => getD_set_true (HX.out.c5_4 (lset h (by decide))), fun h => getD_set_true (HX.out.c7_4 (lset h (by decide))), fun h => getD_set_true (HX.out.c7_6 (lset h (by decide)))⟩⟩
    · have hJ := hoj
      simp at hJ
      have l6 : listed.getD 6 false = true := hall ⟨6, .data⟩ (by subst hJ; simp) rfl
      have l5 : listed.getD 5 false = true := hall ⟨5, .data⟩ (by subst hJ; simp) rfl
      have l4 : listed.getD 4 false = true := hx.c5_4 l5
      obtain rfl := hx.f6 l6
      obtain rfl := hx.f5 l5
      have HBA : Hid _ := hx.ba l6 (by rw [getD_both hi0]; decide)
      have hz := HBA.out
      have zc0 := blk_cell hz 0 rfl
      have zf0 := blk_free hz 0
      have zc1 := blk_cell hz 1 rfl
      have zf1 := blk_free hz 1
      have zc2 := blk_cell hz 2 rfl
      have zf2 := blk_free hz 2
      have zc3 := blk_cell hz 3 rfl
      have zf3 := blk_free hz 3
      have zc4 := blk_cell hz 4 rfl
      have zf4 := blk_free hz 4
      have zc5 := blk_cell hz 5 rfl
      have zf5 := blk_free hz 5
      have zc6 := blk_cell hz 6 rfl
      have zf6 := blk_free hz 6
      clear hz
      have HX : Hid _ := hx
      have HI0 : Hid _ := hi0
      clear hx hall hoj hJ hi hi0
      simp only [List.setIfInBounds_toArray, List.set_cons_succ, List.set_cons_zero]
      refine wpOp_step (o := _) rfl fun K' hK => ?_
      rw [if_pos (by kernel_rfl)]
      have HK9 : Hid _ := hK
      clear hK
      go_wp2_with fail
      rw [set7 HBA.out]
      exact HK9.out _ _ ⟨m, k, .pointer (some ⟨k, 0, none⟩), x9, x10, x11, x12, x13, .agg #[.int .i64 2, .int .i64 0, .int .i64 0, .int .i64 0, .string ⟨#[]⟩, .int .i64 0, .slice (some ⟨m, 0, none⟩) 2 2], by simp only [Act.put, List.setIfInBounds_toArray, List.set_cons_succ, List.set_cons_zero], ⟨bsr HX.out.bel (HX.out.kw l6) _, fun h => HX.out.f0 (lset h (by decide)), fun h => HX.out.f1 (lset h (by decide)), fun h => HX.out.f2 (lset h (by decide)), fun h => HX.out.f3 (lset h (by decide)), fun h => HX.out.f4 (lset h (by decide)), fun h => HX.out.f5 (lset h (by decide)), fun h => HX.out.f6 (lset h (by decide)), fun h => (setRow_other _ _ _ _ (HX.out.dhm (lset h (by decide)) l6)).trans (HX.out.hm (lset h (by decide))), fun h => by rw [setRow_size]; exact HX.out.kl (lset h (by decide)), fun _ h => absurd (lset_self hsz (by decide)) h, fun _ => setRow_heap _ _ _ _ _ _ HBA.out, fun h h' => HX.out.dhm (lset h (by decide)) (lset h' (by decide)), fun h => HX.out.kw (lset h (by decide)), fun h => getD_set_true (HX.out.c5_4 (lset h (by decide))), fun _ => getD_set_true l4, fun _ => getD_set_true l6⟩⟩
  · rintro a' W2 ⟨m, k, x4, x9, x10, x11, x12, x13, x14, rfl, hx⟩
    have HB2 : Hid _ := hx.bel
    have HM : Hid _ := hx.hm (by simp)
    have HK : Hid _ := hx.fil (by simp)
    have HKW : Hid _ := hx.kw (by simp)
    have h6 := hx.f6 (by simp)
    clear hx
    subst h6
    simp only [List.setIfInBounds_toArray, List.set_cons_succ, List.set_cons_zero]
    have HBW2 : Hid _ := bt HB1.out HB2.out
    have HC2 : Hid _ := bk HB2.out HC.out
    have hz := HK.out
    have zc0 := blk_cell hz 0 rfl
    have zc1 := blk_cell hz 1 rfl
    have zc2 := blk_cell hz 2 rfl
    have zc3 := blk_cell hz 3 rfl
    have zc4 := blk_cell hz 4 rfl
    have zc5 := blk_cell hz 5 rfl
    have zc6 := blk_cell hz 6 rfl
    clear hz
    have HM' : Hid _ := HM.out
    go_wp2_with fail
    refine (Type_c [⟨⟨#[97]⟩, 0⟩] awE (some ⟨m, 0, none⟩) 2 (some ⟨W2.heap.size, 0, none⟩) 1 _ awE_w (Nat.le_refl 2) (two_row (t := 26) (fr := (0, 0)) (x := awR) (y := awN 1) (Ax := none) (cx := 0) (Ay := none) (cy := 0) (alloc_lt HM.out) (by simp; exact Nat.lt_succ_of_lt (heap_lt HM.out)) (Nat.le_refl _) (Row.nil _) (Nat.le_refl _) (Row.nil _)) ?_).mono ?_
    · exact ⟨by simp, .inr ⟨_, 0, rfl, by simp, ⟨_, rfl, fun j u hj => by
        have : j < 2 := (List.getElem?_eq_some_iff.1 hj).1
        have hc : j = 0 ∨ j = 1 := by omega
        rcases hc with rfl | rfl <;> (injection hj with hj; subst hj; exact blk_cell (alloc_at rfl) _ rfl)⟩, trivial⟩⟩
    rintro e W4 ⟨rfl, hb⟩
    have HB3 : Hid _ := bt (ba (Below.refl _ _) _) hb
    have HBW3 : Hid _ := bt HBW2.out HB3.out
    have HC4 : Hid _ := bk HB3.out HC2.out
    have HM4 : Hid _ := bk HB3.out HM.out
    have HK4 : Hid _ := bk HB3.out HK.out
    rw [awE_type]
    clear hb
    go_wp2_with fail
    refine wp_region_inv2 (by kernel_rfl) (AwBI W4 ) (by kernel_rfl) ?_ ?_ ?_
    · refine ⟨0, 0, 0, 0, undef, undef, undef, undef, undef, undef, undef, undef, undef, undef, undef, undef, undef, undef, undef, undef, undef, ?_, ?_⟩
      · simp only [List.setIfInBounds_toArray, List.set_cons_succ, List.set_cons_zero]
      · constructor
        · exact bd (Below.refl _ _)
        all_goals (intro h; simp at h)
    · intro listed a' WW hsz hI i hi
      obtain ⟨hi0, oj, hoj, hall⟩ := mem_ready.1 hi
      have hlt2 : i < 18 := (Array.getElem?_eq_some_iff.1 hoj).1
      obtain ⟨m1, m2, m3, kf, x7, x22, x23, x24, x25, x26, x27, x28, x29, x30, x31, x32, x33, x34, x35, x36, x37, rfl, hx⟩ := hI
      have hcs : i = 0 ∨ i = 1 ∨ i = 2 ∨ i = 3 ∨ i = 4 ∨ i = 5 ∨ i = 6 ∨ i = 7 ∨ i = 8 ∨ i = 9 ∨ i = 10 ∨ i = 11 ∨ i = 12 ∨ i = 13 ∨ i = 14 ∨ i = 15 ∨ i = 16 ∨ i = 17 := by omega
      clear hlt2
      rcases hcs with rfl | rfl | rfl | rfl | rfl | rfl | rfl | rfl | rfl | rfl | rfl | rfl | rfl | rfl | rfl | rfl | rfl | rfl
      · have hJ := hoj
        simp at hJ
        have HX : Hid _ := hx
        have HI0 : Hid _ := hi0
        clear hx hall hoj hJ hi hi0
        simp only [List.setIfInBounds_toArray, List.set_cons_succ, List.set_cons_zero]
        refine wpOp_step (o := _) rfl fun K' hK => ?_
        rw [if_pos (by kernel_rfl)]
        have HK9 : Hid _ := hK
        clear hK
        go_wp2_with fail
        exact HK9.out _ _ ⟨m1, m2, m3, kf, x7, .func (.func 44) #[] #[], x23, x24, x25, x26, x27, x28, x29, x30, x31, x32, x33, x34, x35, x36, x37, by simp only [Act.put, List.setIfInBounds_toArray, List.set_cons_succ, List.set_cons_zero], ⟨HX.out.bel, fun _ => rfl, fun h => HX.out.f1 (lset h (by decide)), fun h => HX.out.f2 (lset h (by decide)), fun h => HX.out.f3 (lset h (by decide)), fun h => HX.out.f4 (lset h (by decide)), fun h => HX.out.f5 (lset h (by decide)), fun h => HX.out.f6 (lset h (by decide)), fun h => HX.out.f7 (lset h (by decide)), fun h => HX.out.f8 (lset h (by decide)), fun h => HX.out.f9 (lset h (by decide)), fun h => HX.out.f10 (lset h (by decide)), fun h => HX.out.f11 (lset h (by decide)), fun h => HX.out.f12 (lset h (by decide)), fun h => HX.out.f13 (lset h (by decide)), fun h => HX.out.f14 (lset h (by decide)), fun h => HX.out.f15 (lset h (by decide)), fun h => HX.out.f16 (lset h (by decide)), fun h => HX.out.g1 (lset h (by decide)), fun h => HX.out.g2 (lset h (by decide)), fun h => HX.out.g3 (lset h (by decide)), fun h => HX.out.kl (lset h (by decide)), fun h h' => HX.out.ba (lset h (by decide)) (fun h2 => h' (getD_set_true h2)), fun h => HX.out.fil (lset h (by decide)), fun h h' => HX.out.dg1 (lset h (by decide)) (lset h' (by decide)), fun h h' => HX.out.dg2 (lset h (by decide)) (lset h' (by decide)), fun h h' => HX.out.dg3 (lset h (by decide)) (lset h' (by decide)), fun h => HX.out.kw (lset h (by decide)), fun h => getD_set_true (HX.out.c11_10 (lset h (by decide))), fun h => getD_set_true (HX.out.c12_10 (lset h (by decide))), fun h => getD_set_true (HX.out.c13_12 (lset h (by decide))), fun h => getD_set_true (HX.out.c14_12 (lset h (by decide))), fun h => getD_set_true (HX.out.c15_14 (lset h (by decide))), fun h => getD_set_true (HX.out.c17_14 (lset h (by decide))), fun h => getD_set_true (HX.out.c17_16 (lset h (by decide)))⟩⟩
      · have hJ := hoj
        simp at hJ
        have HX : Hid _ := hx
        have HI0 : Hid _ := hi0
        clear hx hall hoj hJ hi hi0
        simp only [List.setIfInBounds_toArray, List.set_cons_succ, List.set_cons_zero]
        refine wpOp_step (o := _) rfl fun K' hK => ?_
        rw [if_pos (by kernel_rfl)]
        have HK9 : Hid _ := hK
        clear hK
        go_wp2_with fail
        exact HK9.out _ _ ⟨m1, m2, m3, kf, x7, x22, .agg #[.int .i64 2, .int .i64 1, .string ⟨#[]⟩], x24, x25, x26, x27, x28, x29, x30, x31, x32, x33, x34, x35, x36, x37, by simp only [Act.put, List.setIfInBounds_toArray, List.set_cons_succ, List.set_cons_zero], ⟨HX.out.bel, fun h => HX.out.f0 (lset h (by decide)), fun _ => rfl, fun h => HX.out.f2 (lset h (by decide)), fun h => HX.out.f3 (lset h (by decide)), fun h => HX.out.f4 (lset h (by decide)), fun h => HX.out.f5 (lset h (by decide)), fun h => HX.out.f6 (lset h (by decide)), fun h => HX.out.f7 (lset h (by decide)), fun h => HX.out.f8 (lset h (by decide)), fun h => HX.out.f9 (lset h (by decide)), fun h => HX.out.f10 (lset h (by decide)), fun h => HX.out.f11 (lset h (by decide)), fun h => HX.out.f12 (lset h (by decide)), fun h => HX.out.f13 (lset h (by decide)), fun h => HX.out.f14 (lset h (by decide)), fun h => HX.out.f15 (lset h (by decide)), fun h => HX.out.f16 (lset h (by decide)), fun h => HX.out.g1 (lset h (by decide)), fun h => HX.out.g2 (lset h (by decide)), fun h => HX.out.g3 (lset h (by decide)), fun h => HX.out.kl (lset h (by decide)), fun h h' => HX.out.ba (lset h (by decide)) (fun h2 => h' (getD_set_true h2)), fun h => HX.out.fil (lset h (by decide)), fun h h' => HX.out.dg1 (lset h (by decide)) (lset h' (by decide)), fun h h' => HX.out.dg2 (lset h (by decide)) (lset h' (by decide)), fun h h' => HX.out.dg3 (lset h (by decide)) (lset h' (by decide)), fun h => HX.out.kw (lset h (by decide)), fun h => getD_set_true (HX.out.c11_10 (lset h (by decide))), fun h => getD_set_true (HX.out.c12_10 (lset h (by decide))), fun h => getD_set_true (HX.out.c13_12 (lset h (by decide))), fun h => getD_set_true (HX.out.c14_12 (lset h (by decide))), fun h => getD_set_true (HX.out.c15_14 (lset h (by decide))), fun h => getD_set_true (HX.out.c17_14 (lset h (by decide))), fun h => getD_set_true (HX.out.c17_16 (lset h (by decide)))⟩⟩
      · have hJ := hoj
        simp at hJ
        have l1 : listed.getD 1 false = true := hall ⟨1, .data⟩ (by subst hJ; simp) rfl
        obtain rfl := hx.f1 l1
        have HX : Hid _ := hx
        have HI0 : Hid _ := hi0
        clear hx hall hoj hJ hi hi0
        simp only [List.setIfInBounds_toArray, List.set_cons_succ, List.set_cons_zero]
        refine wpOp_step (o := _) rfl fun K' hK => ?_
        rw [if_pos (by kernel_rfl)]
        have HK9 : Hid _ := hK
        clear hK
        go_wp2_with fail
        exact HK9.out _ _ ⟨m1, m2, m3, kf, x7, x22, .agg #[.int .i64 2, .int .i64 1, .string ⟨#[]⟩], .agg #[.int .i64 0, .int .i64 0, .int .i64 2, .int .i64 1, .string ⟨#[]⟩, .int .i64 0, .slice none 0 0], x25, x26, x27, x28, x29, x30, x31, x32, x33, x34, x35, x36, x37, by simp only [Act.put, List.setIfInBounds_toArray, List.set_cons_succ, List.set_cons_zero], ⟨HX.out.bel, fun h => HX.out.f0 (lset h (by decide)), fun h => HX.out.f1 (lset h (by decide)), fun _ => rfl, fun h => HX.out.f3 (lset h (by decide)), fun h => HX.out.f4 (lset h (by decide)), fun h => HX.out.f5 (lset h (by decide)), fun h => HX.out.f6 (lset h (by decide)), fun h => HX.out.f7 (lset h (by decide)), fun h => HX.out.f8 (lset h (by decide)), fun h => HX.out.f9 (lset h (by decide)), fun h => HX.out.f10 (lset h (by decide)), fun h => HX.out.f11 (lset h (by decide)), fun h => HX.out.f12 (lset h (by decide)), fun h => HX.out.f13 (lset h (by decide)), fun h => HX.out.f14 (lset h (by decide)), fun h => HX.out.f15 (lset h (by decide)), fun h => HX.out.f16 (lset h (by decide)), fun h => HX.out.g1 (lset h (by decide)), fun h => HX.out.g2 (lset h (by decide)), fun h => HX.out.g3 (lset h (by decide)), fun h => HX.out.kl (lset h (by decide)), fun h h' => HX.out.ba (lset h (by decide)) (fun h2 => h' (getD_set_true h2)), fun h => HX.out.fil (lset h (by decide)), fun h h' => HX.out.dg1 (lset h (by decide)) (lset h' (by decide)), fun h h' => HX.out.dg2 (lset h (by decide)) (lset h' (by decide)), fun h h' => HX.out.dg3 (lset h (by decide)) (lset h' (by decide)), fun h => HX.out.kw (lset h (by decide)), fun h => getD_set_true (HX.out.c11_10 (lset h (by decide))), fun h => getD_set_true (HX.out.c12_10 (lset h (by decide))), fun h => getD_set_true (HX.out.c13_12 (lset h (by decide))), fun h => getD_set_true (HX.out.c14_12 (lset h (by decide))), fun h => getD_set_true (HX.out.c15_14 (lset h (by decide))), fun h => getD_set_true (HX.out.c17_14 (lset h (by decide))), fun h => getD_set_true (HX.out.c17_16 (lset h (by decide)))⟩⟩
      · have hJ := hoj
        simp at hJ
        have HX : Hid _ := hx
        have HI0 : Hid _ := hi0
        clear hx hall hoj hJ hi hi0
        simp only [List.setIfInBounds_toArray, List.set_cons_succ, List.set_cons_zero]
        refine wpOp_step (o := _) rfl fun K' hK => ?_
        rw [if_pos (by kernel_rfl)]
        have HK9 : Hid _ := hK
        clear hK
        go_wp2_with fail
        exact HK9.out _ _ ⟨m1, m2, m3, kf, x7, x22, x23, x24, .func (.func 44) #[] #[], x26, x27, x28, x29, x30, x31, x32, x33, x34, x35, x36, x37, by simp only [Act.put, List.setIfInBounds_toArray, List.set_cons_succ, List.set_cons_zero], ⟨HX.out.bel, fun h => HX.out.f0 (lset h (by decide)), fun h => HX.out.f1 (lset h (by decide)), fun h => HX.out.f2 (lset h (by decide)), fun _ => rfl, fun h => HX.out.f4 (lset h (by decide)), fun h => HX.out.f5 (lset h (by decide)), fun h => HX.out.f6 (lset h (by decide)), fun h => HX.out.f7 (lset h (by decide)), fun h => HX.out.f8 (lset h (by decide)), fun h => HX.out.f9 (lset h (by decide)), fun h => HX.out.f10 (lset h (by decide)), fun h => HX.out.f11 (lset h (by decide)), fun h => HX.out.f12 (lset h (by decide)), fun h => HX.out.f13 (lset h (by decide)), fun h => HX.out.f14 (lset h (by decide)), fun h => HX.out.f15 (lset h (by decide)), fun h => HX.out.f16 (lset h (by decide)), fun h => HX.out.g1 (lset h (by decide)), fun h => HX.out.g2 (lset h (by decide)), fun h => HX.out.g3 (lset h (by decide)), fun h => HX.out.kl (lset h (by decide)), fun h h' => HX.out.ba (lset h (by decide)) (fun h2 => h' (getD_set_true h2)), fun h => HX.out.fil (lset h (by decide)), fun h h' => HX.out.dg1 (lset h (by decide)) (lset h' (by decide)), fun h h' => HX.out.dg2 (lset h (by decide)) (lset h' (by decide)), fun h h' => HX.out.dg3 (lset h (by decide)) (lset h' (by decide)), fun h => HX.out.kw (lset h (by decide)), fun h => getD_set_true (HX.out.c11_10 (lset h (by decide))), fun h => getD_set_true (HX.out.c12_10 (lset h (by decide))), fun h => getD_set_true (HX.out.c13_12 (lset h (by decide))), fun h => getD_set_true (HX.out.c14_12 (lset h (by decide))), fun h => getD_set_true (HX.out.c15_14 (lset h (by decide))), fun h => getD_set_true (HX.out.c17_14 (lset h (by decide))), fun h => getD_set_true (HX.out.c17_16 (lset h (by decide)))⟩⟩
      · have hJ := hoj
        simp at hJ
        have hz := bk hx.bel HC4.out
        have zc0 := blk_cell hz 0 rfl
        have zc1 := blk_cell hz 1 rfl
        have zc2 := blk_cell hz 2 rfl
        have zc3 := blk_cell hz 3 rfl
        have zc4 := blk_cell hz 4 rfl
        have zc5 := blk_cell hz 5 rfl
        have zc6 := blk_cell hz 6 rfl
        clear hz
        have HX : Hid _ := hx
        have HI0 : Hid _ := hi0
        clear hx hall hoj hJ hi hi0
        simp only [List.setIfInBounds_toArray, List.set_cons_succ, List.set_cons_zero]
        refine wpOp_step (o := _) rfl fun K' hK => ?_
        rw [if_pos (by kernel_rfl)]
        have HK9 : Hid _ := hK
        clear hK
        go_wp2_with fail
        exact HK9.out _ _ ⟨m1, m2, m3, kf, x7, x22, x23, x24, x25, .agg #[.int .i64 1, .int .i64 0, .int .i64 0, .int .i64 0, .string ⟨#[]⟩, .int .i64 0, .slice none 0 0], x27, x28, x29, x30, x31, x32, x33, x34, x35, x36, x37, by simp only [Act.put, List.setIfInBounds_toArray, List.set_cons_succ, List.set_cons_zero], ⟨HX.out.bel, fun h => HX.out.f0 (lset h (by decide)), fun h => HX.out.f1 (lset h (by decide)), fun h => HX.out.f2 (lset h (by decide)), fun h => HX.out.f3 (lset h (by decide)), fun _ => rfl, fun h => HX.out.f5 (lset h (by decide)), fun h => HX.out.f6 (lset h (by decide)), fun h => HX.out.f7 (lset h (by decide)), fun h => HX.out.f8 (lset h (by decide)), fun h => HX.out.f9 (lset h (by decide)), fun h => HX.out.f10 (lset h (by decide)), fun h => HX.out.f11 (lset h (by decide)), fun h => HX.out.f12 (lset h (by decide)), fun h => HX.out.f13 (lset h (by decide)), fun h => HX.out.f14 (lset h (by decide)), fun h => HX.out.f15 (lset h (by decide)), fun h => HX.out.f16 (lset h (by decide)), fun h => HX.out.g1 (lset h (by decide)), fun h => HX.out.g2 (lset h (by decide)), fun h => HX.out.g3 (lset h (by decide)), fun h => HX.out.kl (lset h (by decide)), fun h h' => HX.out.ba (lset h (by decide)) (fun h2 => h' (getD_set_true h2)), fun h => HX.out.fil (lset h (by decide)), fun h h' => HX.out.dg1 (lset h (by decide)) (lset h' (by decide)), fun h h' => HX.out.dg2 (lset h (by decide)) (lset h' (by decide)), fun h h' => HX.out.dg3 (lset h (by decide)) (lset h' (by decide)), fun h => HX.out.kw (lset h (by decide)), fun h => getD_set_true (HX.out.c11_10 (lset h (by decide))), fun h => getD_set_true (HX.out.c12_10 (lset h (by decide))), fun h => getD_set_true (HX.out.c13_12 (lset h (by decide))), fun h => getD_set_true (HX.out.c14_12 (lset h (by decide))), fun h => getD_set_true (HX.out.c15_14 (lset h (by decide))), fun h => getD_set_true (HX.out.c17_14 (lset h (by decide))), fun h => getD_set_true (HX.out.c17_16 (lset h (by decide)))⟩⟩
      · have hJ := hoj
        simp at hJ
        have HX : Hid _ := hx
        have HI0 : Hid _ := hi0
        clear hx hall hoj hJ hi hi0
        simp only [List.setIfInBounds_toArray, List.set_cons_succ, List.set_cons_zero]
        refine wpOp_step (o := _) rfl fun K' hK => ?_
        rw [if_pos (by kernel_rfl)]
        have HK9 : Hid _ := hK
        clear hK
        go_wp2_with fail
        exact HK9.out _ _ ⟨m1, m2, m3, kf, x7, x22, x23, x24, x25, x26, .func (.func 44) #[] #[], x28, x29, x30, x31, x32, x33, x34, x35, x36, x37, by simp only [Act.put, List.setIfInBounds_toArray, List.set_cons_succ, List.set_cons_zero], ⟨HX.out.bel, fun h => HX.out.f0 (lset h (by decide)), fun h => HX.out.f1 (lset h (by decide)), fun h => HX.out.f2 (lset h (by decide)), fun h => HX.out.f3 (lset h (by decide)), fun h => HX.out.f4 (lset h (by decide)), fun _ => rfl, fun h => HX.out.f6 (lset h (by decide)), fun h => HX.out.f7 (lset h (by decide)), fun h => HX.out.f8 (lset h (by decide)), fun h => HX.out.f9 (lset h (by decide)), fun h => HX.out.f10 (lset h (by decide)), fun h => HX.out.f11 (lset h (by decide)), fun h => HX.out.f12 (lset h (by decide)), fun h => HX.out.f13 (lset h (by decide)), fun h => HX.out.f14 (lset h (by decide)), fun h => HX.out.f15 (lset h (by decide)), fun h => HX.out.f16 (lset h (by decide)), fun h => HX.out.g1 (lset h (by decide)), fun h => HX.out.g2 (lset h (by decide)), fun h => HX.out.g3 (lset h (by decide)), fun h => HX.out.kl (lset h (by decide)), fun h h' => HX.out.ba (lset h (by decide)) (fun h2 => h' (getD_set_true h2)), fun h => HX.out.fil (lset h (by decide)), fun h h' => HX.out.dg1 (lset h (by decide)) (lset h' (by decide)), fun h h' => HX.out.dg2 (lset h (by decide)) (lset h' (by decide)), fun h h' => HX.out.dg3 (lset h (by decide)) (lset h' (by decide)), fun h => HX.out.kw (lset h (by decide)), fun h => getD_set_true (HX.out.c11_10 (lset h (by decide))), fun h => getD_set_true (HX.out.c12_10 (lset h (by decide))), fun h => getD_set_true (HX.out.c13_12 (lset h (by decide))), fun h => getD_set_true (HX.out.c14_12 (lset h (by decide))), fun h => getD_set_true (HX.out.c15_14 (lset h (by decide))), fun h => getD_set_true (HX.out.c17_14 (lset h (by decide))), fun h => getD_set_true (HX.out.c17_16 (lset h (by decide)))⟩⟩
      · have hJ := hoj
        simp at hJ
        have HX : Hid _ := hx
        have HI0 : Hid _ := hi0
        clear hx hall hoj hJ hi hi0
        simp only [List.setIfInBounds_toArray, List.set_cons_succ, List.set_cons_zero]
        refine wpOp_step (o := _) rfl fun K' hK => ?_
        rw [if_pos (by kernel_rfl)]
        have HK9 : Hid _ := hK
        clear hK
        go_wp2_with fail
        exact HK9.out _ _ ⟨m1, m2, m3, kf, x7, x22, x23, x24, x25, x26, x27, .func (.func 43) #[] #[], x29, x30, x31, x32, x33, x34, x35, x36, x37, by simp only [Act.put, List.setIfInBounds_toArray, List.set_cons_succ, List.set_cons_zero], ⟨HX.out.bel, fun h => HX.out.f0 (lset h (by decide)), fun h => HX.out.f1 (lset h (by decide)), fun h => HX.out.f2 (lset h (by decide)), fun h => HX.out.f3 (lset h (by decide)), fun h => HX.out.f4 (lset h (by decide)), fun h => HX.out.f5 (lset h (by decide)), fun _ => rfl, fun h => HX.out.f7 (lset h (by decide)), fun h => HX.out.f8 (lset h (by decide)), fun h => HX.out.f9 (lset h (by decide)), fun h => HX.out.f10 (lset h (by decide)), fun h => HX.out.f11 (lset h (by decide)), fun h => HX.out.f12 (lset h (by decide)), fun h => HX.out.f13 (lset h (by decide)), fun h => HX.out.f14 (lset h (by decide)), fun h => HX.out.f15 (lset h (by decide)), fun h => HX.out.f16 (lset h (by decide)), fun h => HX.out.g1 (lset h (by decide)), fun h => HX.out.g2 (lset h (by decide)), fun h => HX.out.g3 (lset h (by decide)), fun h => HX.out.kl (lset h (by decide)), fun h h' => HX.out.ba (lset h (by decide)) (fun h2 => h' (getD_set_true h2)), fun h => HX.out.fil (lset h (by decide)), fun h h' => HX.out.dg1 (lset h (by decide)) (lset h' (by decide)), fun h h' => HX.out.dg2 (lset h (by decide)) (lset h' (by decide)), fun h h' => HX.out.dg3 (lset h (by decide)) (lset h' (by decide)), fun h => HX.out.kw (lset h (by decide)), fun h => getD_set_true (HX.out.c11_10 (lset h (by decide))), fun h => getD_set_true (HX.out.c12_10 (lset h (by decide))), fun h => getD_set_true (HX.out.c13_12 (lset h (by decide))), fun h => getD_set_true (HX.out.c14_12 (lset h (by decide))), fun h => getD_set_true (HX.out.c15_14 (lset h (by decide))), fun h => getD_set_true (HX.out.c17_14 (lset h (by decide))), fun h => getD_set_true (HX.out.c17_16 (lset h (by decide)))⟩⟩
      · have hJ := hoj
        simp at hJ
        have l6 : listed.getD 6 false = true := hall ⟨6, .data⟩ (by subst hJ; simp) rfl
        obtain rfl := hx.f6 l6
        have HX : Hid _ := hx
        have HI0 : Hid _ := hi0
        clear hx hall hoj hJ hi hi0
        simp only [List.setIfInBounds_toArray, List.set_cons_succ, List.set_cons_zero]
        refine wpOp_step (o := _) rfl fun K' hK => ?_
        rw [if_pos (by kernel_rfl)]
        have HK9 : Hid _ := hK
        clear hK
        go_wp2_with fail
        refine (awk1_c _ _).mono ?_
        rintro e w1 ⟨rfl, hb⟩
        have HBX : Hid _ := hb
        clear hb
        go_wp2_with fail
        exact HK9.out _ _ ⟨m1, m2, m3, kf, x7, x22, x23, x24, x25, x26, x27, .func (.func 43) #[] #[], .agg #[.int .i64 0, .int .i64 0, .int .i64 0, .int .i64 1, .string ⟨#[]⟩, .int .i64 0, .slice none 0 0], x30, x31, x32, x33, x34, x35, x36, x37, by simp only [Act.put, List.setIfInBounds_toArray, List.set_cons_succ, List.set_cons_zero], ⟨bt HX.out.bel HBX.out, fun h => HX.out.f0 (lset h (by decide)), fun h => HX.out.f1 (lset h (by decide)), fun h => HX.out.f2 (lset h (by decide)), fun h => HX.out.f3 (lset h (by decide)), fun h => HX.out.f4 (lset h (by decide)), fun h => HX.out.f5 (lset h (by decide)), fun h => HX.out.f6 (lset h (by decide)), fun _ => rfl, fun h => HX.out.f8 (lset h (by decide)), fun h => HX.out.f9 (lset h (by decide)), fun h => HX.out.f10 (lset h (by decide)), fun h => HX.out.f11 (lset h (by decide)), fun h => HX.out.f12 (lset h (by decide)), fun h => HX.out.f13 (lset h (by decide)), fun h => HX.out.f14 (lset h (by decide)), fun h => HX.out.f15 (lset h (by decide)), fun h => HX.out.f16 (lset h (by decide)), fun h => bk HBX.out (HX.out.g1 (lset h (by decide))), fun h => bk HBX.out (HX.out.g2 (lset h (by decide))), fun h => bk HBX.out (HX.out.g3 (lset h (by decide))), fun h => Nat.lt_of_lt_of_le (HX.out.kl (lset h (by decide))) (Below.size HBX.out), fun h h' => bk HBX.out (HX.out.ba (lset h (by decide)) (fun h2 => h' (getD_set_true h2))), fun h => bk HBX.out (HX.out.fil (lset h (by decide))), fun h h' => HX.out.dg1 (lset h (by decide)) (lset h' (by decide)), fun h h' => HX.out.dg2 (lset h (by decide)) (lset h' (by decide)), fun h h' => HX.out.dg3 (lset h (by decide)) (lset h' (by decide)), fun h => HX.out.kw (lset h (by decide)), fun h => getD_set_true (HX.out.c11_10 (lset h (by decide))), fun h => getD_set_true (HX.out.c12_10 (lset h (by decide))), fun h => getD_set_true (HX.out.c13_12 (lset h (by decide))), fun h => getD_set_true (HX.out.c14_12 (lset h (by decide))), fun h => getD_set_true (HX.out.c15_14 (lset h (by decide))), fun h => getD_set_true (HX.out.c17_14 (lset h (by decide))), fun h => getD_set_true (HX.out.c17_16 (lset h (by decide)))⟩⟩
      · have hJ := hoj
        simp at hJ
        have HX : Hid _ := hx
        have HI0 : Hid _ := hi0
        clear hx hall hoj hJ hi hi0
        simp only [List.setIfInBounds_toArray, List.set_cons_succ, List.set_cons_zero]
        refine wpOp_step (o := _) rfl fun K' hK => ?_
        rw [if_pos (by kernel_rfl)]
        have HK9 : Hid _ := hK
        clear hK
        go_wp2_with fail
        exact HK9.out _ _ ⟨m1, m2, m3, kf, x7, x22, x23, x24, x25, x26, x27, x28, x29, .func (.func 43) #[] #[], x31, x32, x33, x34, x35, x36, x37, by simp only [Act.put, List.setIfInBounds_toArray, List.set_cons_succ, List.set_cons_zero], ⟨HX.out.bel, fun h => HX.out.f0 (lset h (by decide)), fun h => HX.out.f1 (lset h (by decide)), fun h => HX.out.f2 (lset h (by decide)), fun h => HX.out.f3 (lset h (by decide)), fun h => HX.out.f4 (lset h (by decide)), fun h => HX.out.f5 (lset h (by decide)), fun h => HX.out.f6 (lset h (by decide)), fun h => HX.out.f7 (lset h (by decide)), fun _ => rfl, fun h => HX.out.f9 (lset h (by decide)), fun h => HX.out.f10 (lset h (by decide)), fun h => HX.out.f11 (lset h (by decide)), fun h => HX.out.f12 (lset h (by decide)), fun h => HX.out.f13 (lset h (by decide)), fun h => HX.out.f14 (lset h (by decide)), fun h => HX.out.f15 (lset h (by decide)), fun h => HX.out.f16 (lset h (by decide)), fun h => HX.out.g1 (lset h (by decide)), fun h => HX.out.g2 (lset h (by decide)), fun h => HX.out.g3 (lset h (by decide)), fun h => HX.out.kl (lset h (by decide)), fun h h' => HX.out.ba (lset h (by decide)) (fun h2 => h' (getD_set_true h2)), fun h => HX.out.fil (lset h (by decide)), fun h h' => HX.out.dg1 (lset h (by decide)) (lset h' (by decide)), fun h h' => HX.out.dg2 (lset h (by decide)) (lset h' (by decide)), fun h h' => HX.out.dg3 (lset h (by decide)) (lset h' (by decide)), fun h => HX.out.kw (lset h (by decide)), fun h => getD_set_true (HX.out.c11_10 (lset h (by decide))), fun h => getD_set_true (HX.out.c12_10 (lset h (by decide))), fun h => getD_set_true (HX.out.c13_12 (lset h (by decide))), fun h => getD_set_true (HX.out.c14_12 (lset h (by decide))), fun h => getD_set_true (HX.out.c15_14 (lset h (by decide))), fun h => getD_set_true (HX.out.c17_14 (lset h (by decide))), fun h => getD_set_true (HX.out.c17_16 (lset h (by decide)))⟩⟩
      · have hJ := hoj
        simp at hJ
        have l8 : listed.getD 8 false = true := hall ⟨8, .data⟩ (by subst hJ; simp) rfl
        have l7 : listed.getD 7 false = true := hall ⟨7, .chain⟩ (by subst hJ; simp) rfl
        obtain rfl := hx.f8 l8
        obtain rfl := hx.f7 l7
        have HX : Hid _ := hx
        have HI0 : Hid _ := hi0
        clear hx hall hoj hJ hi hi0
        simp only [List.setIfInBounds_toArray, List.set_cons_succ, List.set_cons_zero]
        refine wpOp_step (o := _) rfl fun K' hK => ?_
        rw [if_pos (by kernel_rfl)]
        have HK9 : Hid _ := hK
        clear hK
        go_wp2_with fail
        refine (awk1_c _ _).mono ?_
        rintro e w1 ⟨rfl, hb⟩
        have HBX : Hid _ := hb
        clear hb
        go_wp2_with fail
        exact HK9.out _ _ ⟨m1, m2, m3, kf, x7, x22, x23, x24, x25, x26, x27, x28, .agg #[.int .i64 0, .int .i64 0, .int .i64 0, .int .i64 1, .string ⟨#[]⟩, .int .i64 0, .slice none 0 0], .func (.func 43) #[] #[], .agg #[.int .i64 0, .int .i64 0, .int .i64 0, .int .i64 2, .string ⟨#[]⟩, .int .i64 0, .slice none 0 0], x32, x33, x34, x35, x36, x37, by simp only [Act.put, List.setIfInBounds_toArray, List.set_cons_succ, List.set_cons_zero], ⟨bt HX.out.bel HBX.out, fun h => HX.out.f0 (lset h (by decide)), fun h => HX.out.f1 (lset h (by decide)), fun h => HX.out.f2 (lset h (by decide)), fun h => HX.out.f3 (lset h (by decide)), fun h => HX.out.f4 (lset h (by decide)), fun h => HX.out.f5 (lset h (by decide)), fun h => HX.out.f6 (lset h (by decide)), fun h => HX.out.f7 (lset h (by decide)), fun h => HX.out.f8 (lset h (by decide)), fun _ => rfl, fun h => HX.out.f10 (lset h (by decide)), fun h => HX.out.f11 (lset h (by decide)), fun h => HX.out.f12 (lset h (by decide)), fun h => HX.out.f13 (lset h (by decide)), fun h => HX.out.f14 (lset h (by decide)), fun h => HX.out.f15 (lset h (by decide)), fun h => HX.out.f16 (lset h (by decide)), fun h => bk HBX.out (HX.out.g1 (lset h (by decide))), fun h => bk HBX.out (HX.out.g2 (lset h (by decide))), fun h => bk HBX.out (HX.out.g3 (lset h (by decide))), fun h => Nat.lt_of_lt_of_le (HX.out.kl (lset h (by decide))) (Below.size HBX.out), fun h h' => bk HBX.out (HX.out.ba (lset h (by decide)) (fun h2 => h' (getD_set_true h2))), fun h => bk HBX.out (HX.out.fil (lset h (by decide))), fun h h' => HX.out.dg1 (lset h (by decide)) (lset h' (by decide)), fun h h' => HX.out.dg2 (lset h (by decide)) (lset h' (by decide)), fun h h' => HX.out.dg3 (lset h (by decide)) (lset h' (by decide)), fun h => HX.out.kw (lset h (by decide)), fun h => getD_set_true (HX.out.c11_10 (lset h (by decide))), fun h => getD_set_true (HX.out.c12_10 (lset h (by decide))), fun h => getD_set_true (HX.out.c13_12 (lset h (by decide))), fun h => getD_set_true (HX.out.c14_12 (lset h (by decide))), fun h => getD_set_true (HX.out.c15_14 (lset h (by decide))), fun h => getD_set_true (HX.out.c17_14 (lset h (by decide))), fun h => getD_set_true (HX.out.c17_16 (lset h (by decide)))⟩⟩
      · have hJ := hoj
        simp at hJ
        have l7 : listed.getD 7 false = true := hall ⟨7, .data⟩ (by subst hJ; simp) rfl
        have l9 : listed.getD 9 false = true := hall ⟨9, .data⟩ (by subst hJ; simp) rfl
        obtain rfl := hx.f7 l7
        obtain rfl := hx.f9 l9
        have HX : Hid _ := hx
        have HI0 : Hid _ := hi0
        clear hx hall hoj hJ hi hi0
        simp only [List.setIfInBounds_toArray, List.set_cons_succ, List.set_cons_zero]
        refine wpOp_step (o := _) rfl fun K' hK => ?_
        rw [if_pos (by kernel_rfl)]
        have HK9 : Hid _ := hK
        clear hK
        go_wp2_with fail
        exact HK9.out _ _ ⟨WW.heap.size, m2, m3, kf, x7, x22, x23, x24, x25, x26, x27, x28, .agg #[.int .i64 0, .int .i64 0, .int .i64 0, .int .i64 1, .string ⟨#[]⟩, .int .i64 0, .slice none 0 0], x30, .agg #[.int .i64 0, .int .i64 0, .int .i64 0, .int .i64 2, .string ⟨#[]⟩, .int .i64 0, .slice none 0 0], .slice (some ⟨WW.heap.size, 0, none⟩) 2 2, x33, x34, x35, x36, x37, by simp only [Act.put, List.setIfInBounds_toArray, List.set_cons_succ, List.set_cons_zero], ⟨bt HX.out.bel (ba (Below.refl _ _) _), fun h => HX.out.f0 (lset h (by decide)), fun h => HX.out.f1 (lset h (by decide)), fun h => HX.out.f2 (lset h (by decide)), fun h => HX.out.f3 (lset h (by decide)), fun h => HX.out.f4 (lset h (by decide)), fun h => HX.out.f5 (lset h (by decide)), fun h => HX.out.f6 (lset h (by decide)), fun h => HX.out.f7 (lset h (by decide)), fun h => HX.out.f8 (lset h (by decide)), fun h => HX.out.f9 (lset h (by decide)), fun _ => rfl, fun h => absurd (HX.out.c11_10 (lset h (by decide))) (by rw [getD_both HI0.out]; decide), fun h => HX.out.f12 (lset h (by decide)), fun h => HX.out.f13 (lset h (by decide)), fun h => HX.out.f14 (lset h (by decide)), fun h => HX.out.f15 (lset h (by decide)), fun h => HX.out.f16 (lset h (by decide)), fun _ => alloc_at rfl, fun h => absurd (HX.out.c12_10 (lset h (by decide))) (by rw [getD_both HI0.out]; decide), fun h => bk (ba (Below.refl _ _) _) (HX.out.g3 (lset h (by decide))), fun h => Nat.lt_of_lt_of_le (HX.out.kl (lset h (by decide))) (Below.size (ba (Below.refl _ _) _)), fun h h' => bk (ba (Below.refl _ _) _) (HX.out.ba (lset h (by decide)) (fun h2 => h' (getD_set_true h2))), fun h => bk (ba (Below.refl _ _) _) (HX.out.fil (lset h (by decide))), fun _ h => Nat.ne_of_gt (HX.out.kl (lset h (by decide))), fun h h' => HX.out.dg2 (lset h (by decide)) (lset h' (by decide)), fun h h' => HX.out.dg3 (lset h (by decide)) (lset h' (by decide)), fun h => HX.out.kw (lset h (by decide)), fun h => getD_set_true (HX.out.c11_10 (lset h (by decide))), fun h => getD_set_true (HX.out.c12_10 (lset h (by decide))), fun h => getD_set_true (HX.out.c13_12 (lset h (by decide))), fun h => getD_set_true (HX.out.c14_12 (lset h (by decide))), fun h => getD_set_true (HX.out.c15_14 (lset h (by decide))), fun h => getD_set_true (HX.out.c17_14 (lset h (by decide))), fun h => getD_set_true (HX.out.c17_16 (lset h (by decide)))⟩⟩
      · have hJ := hoj
        simp at hJ
        have l5 : listed.getD 5 false = true := hall ⟨5, .data⟩ (by subst hJ; simp) rfl
        have l10 : listed.getD 10 false = true := hall ⟨10, .data⟩ (by subst hJ; simp) rfl
        have l9 : listed.getD 9 false = true := hall ⟨9, .chain⟩ (by subst hJ; simp) rfl
        obtain rfl := hx.f5 l5
        obtain rfl := hx.f10 l10
        obtain rfl := hx.f9 l9
        have HX : Hid _ := hx
        have HI0 : Hid _ := hi0
        clear hx hall hoj hJ hi hi0
        simp only [List.setIfInBounds_toArray, List.set_cons_succ, List.set_cons_zero]
        refine wpOp_step (o := _) rfl fun K' hK => ?_
        rw [if_pos (by kernel_rfl)]
        have HK9 : Hid _ := hK
        clear hK
        go_wp2_with fail
        refine (awk2_c _ _ _ _ _).mono ?_
        rintro e w1 ⟨rfl, hb⟩
        have HBX : Hid _ := hb
        clear hb
        go_wp2_with fail
        exact HK9.out _ _ ⟨m1, m2, m3, kf, x7, x22, x23, x24, x25, x26, .func (.func 44) #[] #[], x28, x29, x30, .agg #[.int .i64 0, .int .i64 0, .int .i64 0, .int .i64 2, .string ⟨#[]⟩, .int .i64 0, .slice none 0 0], .slice (some ⟨m1, 0, none⟩) 2 2, .agg #[.int .i64 2, .int .i64 0, .int .i64 0, .int .i64 0, .string ⟨#[]⟩, .int .i64 0, .slice (some ⟨m1, 0, none⟩) 2 2], x34, x35, x36, x37, by simp only [Act.put, List.setIfInBounds_toArray, List.set_cons_succ, List.set_cons_zero], ⟨bt HX.out.bel HBX.out, fun h => HX.out.f0 (lset h (by decide)), fun h => HX.out.f1 (lset h (by decide)), fun h => HX.out.f2 (lset h (by decide)), fun h => HX.out.f3 (lset h (by decide)), fun h => HX.out.f4 (lset h (by decide)), fun h => HX.out.f5 (lset h (by decide)), fun h => HX.out.f6 (lset h (by decide)), fun h => HX.out.f7 (lset h (by decide)), fun h => HX.out.f8 (lset h (by decide)), fun h => HX.out.f9 (lset h (by decide)), fun h => HX.out.f10 (lset h (by decide)), fun _ => rfl, fun h => HX.out.f12 (lset h (by decide)), fun h => HX.out.f13 (lset h (by decide)), fun h => HX.out.f14 (lset h (by decide)), fun h => HX.out.f15 (lset h (by decide)), fun h => HX.out.f16 (lset h (by decide)), fun h => bk HBX.out (HX.out.g1 (lset h (by decide))), fun h => bk HBX.out (HX.out.g2 (lset h (by decide))), fun h => bk HBX.out (HX.out.g3 (lset h (by decide))), fun h => Nat.lt_of_lt_of_le (HX.out.kl (lset h (by decide))) (Below.size HBX.out), fun h h' => bk HBX.out (HX.out.ba (lset h (by decide)) (fun h2 => h' (getD_set_true h2))), fun h => bk HBX.out (HX.out.fil (lset h (by decide))), fun h h' => HX.out.dg1 (lset h (by decide)) (lset h' (by decide)), fun h h' => HX.out.dg2 (lset h (by decide)) (lset h' (by decide)), fun h h' => HX.out.dg3 (lset h (by decide)) (lset h' (by decide)), fun h => HX.out.kw (lset h (by decide)), fun _ => getD_set_true l10, fun h => getD_set_true (HX.out.c12_10 (lset h (by decide))), fun h => getD_set_true (HX.out.c13_12 (lset h (by decide))), fun h => getD_set_true (HX.out.c14_12 (lset h (by decide))), fun h => getD_set_true (HX.out.c15_14 (lset h (by decide))), fun h => getD_set_true (HX.out.c17_14 (lset h (by decide))), fun h => getD_set_true (HX.out.c17_16 (lset h (by decide)))⟩⟩
      · have hJ := hoj
        simp at hJ
        have l4 : listed.getD 4 false = true := hall ⟨4, .data⟩ (by subst hJ; simp) rfl
        have l11 : listed.getD 11 false = true := hall ⟨11, .data⟩ (by subst hJ; simp) rfl
        have l10 : listed.getD 10 false = true := hx.c11_10 l11
        obtain rfl := hx.f4 l4
        obtain rfl := hx.f11 l11
        have HX : Hid _ := hx
        have HI0 : Hid _ := hi0
        clear hx hall hoj hJ hi hi0
        simp only [List.setIfInBounds_toArray, List.set_cons_succ, List.set_cons_zero]
        refine wpOp_step (o := _) rfl fun K' hK => ?_
        rw [if_pos (by kernel_rfl)]
        have HK9 : Hid _ := hK
        clear hK
        go_wp2_with fail
        exact HK9.out _ _ ⟨m1, WW.heap.size, m3, kf, x7, x22, x23, x24, x25, .agg #[.int .i64 1, .int .i64 0, .int .i64 0, .int .i64 0, .string ⟨#[]⟩, .int .i64 0, .slice none 0 0], x27, x28, x29, x30, x31, x32, .agg #[.int .i64 2, .int .i64 0, .int .i64 0, .int .i64 0, .string ⟨#[]⟩, .int .i64 0, .slice (some ⟨m1, 0, none⟩) 2 2], .slice (some ⟨WW.heap.size, 0, none⟩) 2 2, x35, x36, x37, by simp only [Act.put, List.setIfInBounds_toArray, List.set_cons_succ, List.set_cons_zero], ⟨bt HX.out.bel (ba (Below.refl _ _) _), fun h => HX.out.f0 (lset h (by decide)), fun h => HX.out.f1 (lset h (by decide)), fun h => HX.out.f2 (lset h (by decide)), fun h => HX.out.f3 (lset h (by decide)), fun h => HX.out.f4 (lset h (by decide)), fun h => HX.out.f5 (lset h (by decide)), fun h => HX.out.f6 (lset h (by decide)), fun h => HX.out.f7 (lset h (by decide)), fun h => HX.out.f8 (lset h (by decide)), fun h => HX.out.f9 (lset h (by decide)), fun h => HX.out.f10 (lset h (by decide)), fun h => HX.out.f11 (lset h (by decide)), fun _ => rfl, fun h => absurd (HX.out.c13_12 (lset h (by decide))) (by rw [getD_both HI0.out]; decide), fun h => HX.out.f14 (lset h (by decide)), fun h => HX.out.f15 (lset h (by decide)), fun h => HX.out.f16 (lset h (by decide)), fun h => bk (ba (Below.refl _ _) _) (HX.out.g1 (lset h (by decide))), fun _ => alloc_at rfl, fun h => absurd (HX.out.c14_12 (lset h (by decide))) (by rw [getD_both HI0.out]; decide), fun h => Nat.lt_of_lt_of_le (HX.out.kl (lset h (by decide))) (Below.size (ba (Below.refl _ _) _)), fun h h' => bk (ba (Below.refl _ _) _) (HX.out.ba (lset h (by decide)) (fun h2 => h' (getD_set_true h2))), fun h => bk (ba (Below.refl _ _) _) (HX.out.fil (lset h (by decide))), fun h h' => HX.out.dg1 (lset h (by decide)) (lset h' (by decide)), fun _ h => Nat.ne_of_gt (HX.out.kl (lset h (by decide))), fun h h' => HX.out.dg3 (lset h (by decide)) (lset h' (by decide)), fun h => HX.out.kw (lset h (by decide)), fun h => getD_set_true (HX.out.c11_10 (lset h (by decide))), fun _ => getD_set_true l10, fun h => getD_set_true (HX.out.c13_12 (lset h (by decide))), fun h => getD_set_true (HX.out.c14_12 (lset h (by decide))), fun h => getD_set_true (HX.out.c15_14 (lset h (by decide))), fun h => getD_set_true (HX.out.c17_14 (lset h (by decide))), fun h => getD_set_true (HX.out.c17_16 (lset h (by decide)))⟩⟩
      · have hJ := hoj
        simp at hJ
        have l3 : listed.getD 3 false = true := hall ⟨3, .data⟩ (by subst hJ; simp) rfl
        have l12 : listed.getD 12 false = true := hall ⟨12, .data⟩ (by subst hJ; simp) rfl
        have l11 : listed.getD 11 false = true := hall ⟨11, .chain⟩ (by subst hJ; simp) rfl
        obtain rfl := hx.f3 l3
        obtain rfl := hx.f12 l12
        obtain rfl := hx.f11 l11
        have HX : Hid _ := hx
        have HI0 : Hid _ := hi0
        clear hx hall hoj hJ hi hi0
        simp only [List.setIfInBounds_toArray, List.set_cons_succ, List.set_cons_zero]
        refine wpOp_step (o := _) rfl fun K' hK => ?_
        rw [if_pos (by kernel_rfl)]
        have HK9 : Hid _ := hK
        clear hK
        go_wp2_with fail
        refine (awk2_c _ _ _ _ _).mono ?_
        rintro e w1 ⟨rfl, hb⟩
        have HBX : Hid _ := hb
        clear hb
        go_wp2_with fail
        exact HK9.out _ _ ⟨m1, m2, m3, kf, x7, x22, x23, x24, .func (.func 44) #[] #[], x26, x27, x28, x29, x30, x31, x32, .agg #[.int .i64 2, .int .i64 0, .int .i64 0, .int .i64 0, .string ⟨#[]⟩, .int .i64 0, .slice (some ⟨m1, 0, none⟩) 2 2], .slice (some ⟨m2, 0, none⟩) 2 2, .agg #[.int .i64 2, .int .i64 0, .int .i64 0, .int .i64 0, .string ⟨#[]⟩, .int .i64 7, .slice (some ⟨m2, 0, none⟩) 2 2], x36, x37, by simp only [Act.put, List.setIfInBounds_toArray, List.set_cons_succ, List.set_cons_zero], ⟨bt HX.out.bel HBX.out, fun h => HX.out.f0 (lset h (by decide)), fun h => HX.out.f1 (lset h (by decide)), fun h => HX.out.f2 (lset h (by decide)), fun h => HX.out.f3 (lset h (by decide)), fun h => HX.out.f4 (lset h (by decide)), fun h => HX.out.f5 (lset h (by decide)), fun h => HX.out.f6 (lset h (by decide)), fun h => HX.out.f7 (lset h (by decide)), fun h => HX.out.f8 (lset h (by decide)), fun h => HX.out.f9 (lset h (by decide)), fun h => HX.out.f10 (lset h (by decide)), fun h => HX.out.f11 (lset h (by decide)), fun h => HX.out.f12 (lset h (by decide)), fun _ => rfl, fun h => HX.out.f14 (lset h (by decide)), fun h => HX.out.f15 (lset h (by decide)), fun h => HX.out.f16 (lset h (by decide)), fun h => bk HBX.out (HX.out.g1 (lset h (by decide))), fun h => bk HBX.out (HX.out.g2 (lset h (by decide))), fun h => bk HBX.out (HX.out.g3 (lset h (by decide))), fun h => Nat.lt_of_lt_of_le (HX.out.kl (lset h (by decide))) (Below.size HBX.out), fun h h' => bk HBX.out (HX.out.ba (lset h (by decide)) (fun h2 => h' (getD_set_true h2))), fun h => bk HBX.out (HX.out.fil (lset h (by decide))), fun h h' => HX.out.dg1 (lset h (by decide)) (lset h' (by decide)), fun h h' => HX.out.dg2 (lset h (by decide)) (lset h' (by decide)), fun h h' => HX.out.dg3 (lset h (by decide)) (lset h' (by decide)), fun h => HX.out.kw (lset h (by decide)), fun h => getD_set_true (HX.out.c11_10 (lset h (by decide))), fun h => getD_set_true (HX.out.c12_10 (lset h (by decide))), fun _ => getD_set_true l12, fun h => getD_set_true (HX.out.c14_12 (lset h (by decide))), fun h => getD_set_true (HX.out.c15_14 (lset h (by decide))), fun h => getD_set_true (HX.out.c17_14 (lset h (by decide))), fun h => getD_set_true (HX.out.c17_16 (lset h (by decide)))⟩⟩
      · have hJ := hoj
        simp at hJ
        have l2 : listed.getD 2 false = true := hall ⟨2, .data⟩ (by subst hJ; simp) rfl
        have l13 : listed.getD 13 false = true := hall ⟨13, .data⟩ (by subst hJ; simp) rfl
        have l12 : listed.getD 12 false = true := hx.c13_12 l13
        obtain rfl := hx.f2 l2
        obtain rfl := hx.f13 l13
        have HX : Hid _ := hx
        have HI0 : Hid _ := hi0
        clear hx hall hoj hJ hi hi0
        simp only [List.setIfInBounds_toArray, List.set_cons_succ, List.set_cons_zero]
        refine wpOp_step (o := _) rfl fun K' hK => ?_
        rw [if_pos (by kernel_rfl)]
        have HK9 : Hid _ := hK
        clear hK
        go_wp2_with fail
        exact HK9.out _ _ ⟨m1, m2, WW.heap.size, kf, x7, x22, x23, .agg #[.int .i64 0, .int .i64 0, .int .i64 2, .int .i64 1, .string ⟨#[]⟩, .int .i64 0, .slice none 0 0], x25, x26, x27, x28, x29, x30, x31, x32, x33, x34, .agg #[.int .i64 2, .int .i64 0, .int .i64 0, .int .i64 0, .string ⟨#[]⟩, .int .i64 7, .slice (some ⟨m2, 0, none⟩) 2 2], .slice (some ⟨WW.heap.size, 0, none⟩) 2 2, x37, by simp only [Act.put, List.setIfInBounds_toArray, List.set_cons_succ, List.set_cons_zero], ⟨bt HX.out.bel (ba (Below.refl _ _) _), fun h => HX.out.f0 (lset h (by decide)), fun h => HX.out.f1 (lset h (by decide)), fun h => HX.out.f2 (lset h (by decide)), fun h => HX.out.f3 (lset h (by decide)), fun h => HX.out.f4 (lset h (by decide)), fun h => HX.out.f5 (lset h (by decide)), fun h => HX.out.f6 (lset h (by decide)), fun h => HX.out.f7 (lset h (by decide)), fun h => HX.out.f8 (lset h (by decide)), fun h => HX.out.f9 (lset h (by decide)), fun h => HX.out.f10 (lset h (by decide)), fun h => HX.out.f11 (lset h (by decide)), fun h => HX.out.f12 (lset h (by decide)), fun h => HX.out.f13 (lset h (by decide)), fun _ => rfl, fun h => absurd (HX.out.c15_14 (lset h (by decide))) (by rw [getD_both HI0.out]; decide), fun h => HX.out.f16 (lset h (by decide)), fun h => bk (ba (Below.refl _ _) _) (HX.out.g1 (lset h (by decide))), fun h => bk (ba (Below.refl _ _) _) (HX.out.g2 (lset h (by decide))), fun _ => alloc_at rfl, fun h => Nat.lt_of_lt_of_le (HX.out.kl (lset h (by decide))) (Below.size (ba (Below.refl _ _) _)), fun h h' => bk (ba (Below.refl _ _) _) (HX.out.ba (lset h (by decide)) (fun h2 => h' (getD_set_true h2))), fun h => absurd (HX.out.c17_14 (lset h (by decide))) (by rw [getD_both HI0.out]; decide), fun h h' => HX.out.dg1 (lset h (by decide)) (lset h' (by decide)), fun h h' => HX.out.dg2 (lset h (by decide)) (lset h' (by decide)), fun _ h => Nat.ne_of_gt (HX.out.kl (lset h (by decide))), fun h => HX.out.kw (lset h (by decide)), fun h => getD_set_true (HX.out.c11_10 (lset h (by decide))), fun h => getD_set_true (HX.out.c12_10 (lset h (by decide))), fun h => getD_set_true (HX.out.c13_12 (lset h (by decide))), fun _ => getD_set_true l12, fun h => getD_set_true (HX.out.c15_14 (lset h (by decide))), fun h => getD_set_true (HX.out.c17_14 (lset h (by decide))), fun h => getD_set_true (HX.out.c17_16 (lset h (by decide)))⟩⟩
      · have hJ := hoj
        simp at hJ
        have l0 : listed.getD 0 false = true := hall ⟨0, .data⟩ (by subst hJ; simp) rfl
        have l14 : listed.getD 14 false = true := hall ⟨14, .data⟩ (by subst hJ; simp) rfl
        have l13 : listed.getD 13 false = true := hall ⟨13, .chain⟩ (by subst hJ; simp) rfl
        obtain rfl := hx.f0 l0
        obtain rfl := hx.f14 l14
        obtain rfl := hx.f13 l13
        have HX : Hid _ := hx
        have HI0 : Hid _ := hi0
        clear hx hall hoj hJ hi hi0
        simp only [List.setIfInBounds_toArray, List.set_cons_succ, List.set_cons_zero]
        refine wpOp_step (o := _) rfl fun K' hK => ?_
        rw [if_pos (by kernel_rfl)]
        have HK9 : Hid _ := hK
        clear hK
        go_wp2_with fail
        refine (awk2_c _ _ _ _ _).mono ?_
        rintro e w1 ⟨rfl, hb⟩
        have HBX : Hid _ := hb
        clear hb
        go_wp2_with fail
        exact HK9.out _ _ ⟨m1, m2, m3, kf, x7, .func (.func 44) #[] #[], x23, x24, x25, x26, x27, x28, x29, x30, x31, x32, x33, x34, .agg #[.int .i64 2, .int .i64 0, .int .i64 0, .int .i64 0, .string ⟨#[]⟩, .int .i64 7, .slice (some ⟨m2, 0, none⟩) 2 2], .slice (some ⟨m3, 0, none⟩) 2 2, .agg #[.int .i64 2, .int .i64 0, .int .i64 0, .int .i64 0, .string ⟨#[]⟩, .int .i64 11, .slice (some ⟨m3, 0, none⟩) 2 2], by simp only [Act.put, List.setIfInBounds_toArray, List.set_cons_succ, List.set_cons_zero], ⟨bt HX.out.bel HBX.out, fun h => HX.out.f0 (lset h (by decide)), fun h => HX.out.f1 (lset h (by decide)), fun h => HX.out.f2 (lset h (by decide)), fun h => HX.out.f3 (lset h (by decide)), fun h => HX.out.f4 (lset h (by decide)), fun h => HX.out.f5 (lset h (by decide)), fun h => HX.out.f6 (lset h (by decide)), fun h => HX.out.f7 (lset h (by decide)), fun h => HX.out.f8 (lset h (by decide)), fun h => HX.out.f9 (lset h (by decide)), fun h => HX.out.f10 (lset h (by decide)), fun h => HX.out.f11 (lset h (by decide)), fun h => HX.out.f12 (lset h (by decide)), fun h => HX.out.f13 (lset h (by decide)), fun h => HX.out.f14 (lset h (by decide)), fun _ => rfl, fun h => HX.out.f16 (lset h (by decide)), fun h => bk HBX.out (HX.out.g1 (lset h (by decide))), fun h => bk HBX.out (HX.out.g2 (lset h (by decide))), fun h => bk HBX.out (HX.out.g3 (lset h (by decide))), fun h => Nat.lt_of_lt_of_le (HX.out.kl (lset h (by decide))) (Below.size HBX.out), fun h h' => bk HBX.out (HX.out.ba (lset h (by decide)) (fun h2 => h' (getD_set_true h2))), fun h => bk HBX.out (HX.out.fil (lset h (by decide))), fun h h' => HX.out.dg1 (lset h (by decide)) (lset h' (by decide)), fun h h' => HX.out.dg2 (lset h (by decide)) (lset h' (by decide)), fun h h' => HX.out.dg3 (lset h (by decide)) (lset h' (by decide)), fun h => HX.out.kw (lset h (by decide)), fun h => getD_set_true (HX.out.c11_10 (lset h (by decide))), fun h => getD_set_true (HX.out.c12_10 (lset h (by decide))), fun h => getD_set_true (HX.out.c13_12 (lset h (by decide))), fun h => getD_set_true (HX.out.c14_12 (lset h (by decide))), fun _ => getD_set_true l14, fun h => getD_set_true (HX.out.c17_14 (lset h (by decide))), fun h => getD_set_true (HX.out.c17_16 (lset h (by decide)))⟩⟩
      · have hJ := hoj
        simp at hJ
        have HX : Hid _ := hx
        have HI0 : Hid _ := hi0
        clear hx hall hoj hJ hi hi0
        simp only [List.setIfInBounds_toArray, List.set_cons_succ, List.set_cons_zero]
        refine wpOp_step (o := _) rfl fun K' hK => ?_
        rw [if_pos (by kernel_rfl)]
        have HK9 : Hid _ := hK
        clear hK
        go_wp2_with fail
        exact HK9.out _ _ ⟨m1, m2, m3, WW.heap.size, .pointer (some ⟨WW.heap.size, 0, none⟩), x22, x23, x24, x25, x26, x27, x28, x29, x30, x31, x32, x33, x34, x35, x36, x37, by simp only [Act.put, List.setIfInBounds_toArray, List.set_cons_succ, List.set_cons_zero], ⟨bt HX.out.bel (ba (Below.refl _ _) _), fun h => HX.out.f0 (lset h (by decide)), fun h => HX.out.f1 (lset h (by decide)), fun h => HX.out.f2 (lset h (by decide)), fun h => HX.out.f3 (lset h (by decide)), fun h => HX.out.f4 (lset h (by decide)), fun h => HX.out.f5 (lset h (by decide)), fun h => HX.out.f6 (lset h (by decide)), fun h => HX.out.f7 (lset h (by decide)), fun h => HX.out.f8 (lset h (by decide)), fun h => HX.out.f9 (lset h (by decide)), fun h => HX.out.f10 (lset h (by decide)), fun h => HX.out.f11 (lset h (by decide)), fun h => HX.out.f12 (lset h (by decide)), fun h => HX.out.f13 (lset h (by decide)), fun h => HX.out.f14 (lset h (by decide)), fun h => HX.out.f15 (lset h (by decide)), fun _ => rfl, fun h => bk (ba (Below.refl _ _) _) (HX.out.g1 (lset h (by decide))), fun h => bk (ba (Below.refl _ _) _) (HX.out.g2 (lset h (by decide))), fun h => bk (ba (Below.refl _ _) _) (HX.out.g3 (lset h (by decide))), fun _ => by simp, fun _ _ => alloc_at rfl, fun h => absurd (HX.out.c17_16 (lset h (by decide))) (by rw [getD_both HI0.out]; decide), fun h _ => Nat.ne_of_lt (heap_lt (HX.out.g1 (lset h (by decide)))), fun h _ => Nat.ne_of_lt (heap_lt (HX.out.g2 (lset h (by decide)))), fun h _ => Nat.ne_of_lt (heap_lt (HX.out.g3 (lset h (by decide)))), fun _ => HX.out.bel.size, fun h => getD_set_true (HX.out.c11_10 (lset h (by decide))), fun h => getD_set_true (HX.out.c12_10 (lset h (by decide))), fun h => getD_set_true (HX.out.c13_12 (lset h (by decide))), fun h => getD_set_true (HX.out.c14_12 (lset h (by decide))), fun h => getD_set_true (HX.out.c15_14 (lset h (by decide))), fun h => getD_set_true (HX.out.c17_14 (lset h (by decide))), fun h => getD_set_true (HX.out.c17_16 (lset h (by decide)))⟩⟩
      · have hJ := hoj
        simp at hJ
        have l16 : listed.getD 16 false = true := hall ⟨16, .data⟩ (by subst hJ; simp) rfl
        have l15 : listed.getD 15 false = true := hall ⟨15, .data⟩ (by subst hJ; simp) rfl
        have l14 : listed.getD 14 false = true := hx.c15_14 l15
        obtain rfl := hx.f16 l16
        obtain rfl := hx.f15 l15
        have HBA : Hid _ := hx.ba l16 (by rw [getD_both hi0]; decide)
        have hz := HBA.out
        have zc0 := blk_cell hz 0 rfl
        have zf0 := blk_free hz 0
        have zc1 := blk_cell hz 1 rfl
        have zf1 := blk_free hz 1
        have zc2 := blk_cell hz 2 rfl
        have zf2 := blk_free hz 2
        have zc3 := blk_cell hz 3 rfl
        have zf3 := blk_free hz 3
        have zc4 := blk_cell hz 4 rfl
        have zf4 := blk_free hz 4
        have zc5 := blk_cell hz 5 rfl
        have zf5 := blk_free hz 5
        have zc6 := blk_cell hz 6 rfl
        have zf6 := blk_free hz 6
        clear hz
        have HX : Hid _ := hx
        have HI0 : Hid _ := hi0
        clear hx hall hoj hJ hi hi0
        simp only [List.setIfInBounds_toArray, List.set_cons_succ, List.set_cons_zero]
        refine wpOp_step (o := _) rfl fun K' hK => ?_
        rw [if_pos (by kernel_rfl)]
        have HK9 : Hid _ := hK
        clear hK
        go_wp2_with fail
        rw [set7 HBA.out]
        exact HK9.out _ _ ⟨m1, m2, m3, kf, .pointer (some ⟨kf, 0, none⟩), x22, x23, x24, x25, x26, x27, x28, x29, x30, x31, x32, x33, x34, x35, x36, .agg #[.int .i64 2, .int .i64 0, .int .i64 0, .int .i64 0, .string ⟨#[]⟩, .int .i64 11, .slice (some ⟨m3, 0, none⟩) 2 2], by simp only [Act.put, List.setIfInBounds_toArray, List.set_cons_succ, List.set_cons_zero], ⟨bsr HX.out.bel (HX.out.kw l16) _, fun h => HX.out.f0 (lset h (by decide)), fun h => HX.out.f1 (lset h (by decide)), fun h => HX.out.f2 (lset h (by decide)), fun h => HX.out.f3 (lset h (by decide)), fun h => HX.out.f4 (lset h (by decide)), fun h => HX.out.f5 (lset h (by decide)), fun h => HX.out.f6 (lset h (by decide)), fun h => HX.out.f7 (lset h (by decide)), fun h => HX.out.f8 (lset h (by decide)), fun h => HX.out.f9 (lset h (by decide)), fun h => HX.out.f10 (lset h (by decide)), fun h => HX.out.f11 (lset h (by decide)), fun h => HX.out.f12 (lset h (by decide)), fun h => HX.out.f13 (lset h (by decide)), fun h => HX.out.f14 (lset h (by decide)), fun h => HX.out.f15 (lset h (by decide)), fun h => HX.out.f16 (lset h (by decide)), fun h => (setRow_other _ _ _ _ (HX.out.dg1 (lset h (by decide)) l16)).trans (HX.out.g1 (lset h (by decide))), fun h => (setRow_other _ _ _ _ (HX.out.dg2 (lset h (by decide)) l16)).trans (HX.out.g2 (lset h (by decide))), fun h => (setRow_other _ _ _ _ (HX.out.dg3 (lset h (by decide)) l16)).trans (HX.out.g3 (lset h (by decide))), fun h => by rw [setRow_size]; exact HX.out.kl (lset h (by decide)), fun _ h => absurd (lset_self hsz (by decide)) h, fun _ => setRow_heap _ _ _ _ _ _ HBA.out, fun h h' => HX.out.dg1 (lset h (by decide)) (lset h' (by decide)), fun h h' => HX.out.dg2 (lset h (by decide)) (lset h' (by decide)), fun h h' => HX.out.dg3 (lset h (by decide)) (lset h' (by decide)), fun h => HX.out.kw (lset h (by decide)), fun h => getD_set_true (HX.out.c11_10 (lset h (by decide))), fun h => getD_set_true (HX.out.c12_10 (lset h (by decide))), fun h => getD_set_true (HX.out.c13_12 (lset h (by decide))), fun h => getD_set_true (HX.out.c14_12 (lset h (by decide))), fun h => getD_set_true (HX.out.c15_14 (lset h (by decide))), fun _ => getD_set_true l14, fun _ => getD_set_true l16⟩⟩
    · rintro a' W6 ⟨m1, m2, m3, kf, x7, x22, x23, x24, x25, x26, x27, x28, x29, x30, x31, x32, x33, x34, x35, x36, x37, rfl, hx⟩
      have HB6 : Hid _ := hx.bel
      have HG1 : Hid _ := hx.g1 (by simp)
      have HG2 : Hid _ := hx.g2 (by simp)
      have HG3 : Hid _ := hx.g3 (by simp)
      have HK6 : Hid _ := hx.fil (by simp)
      have HKW6 : Hid _ := hx.kw (by simp)
      have h16 := hx.f16 (by simp)
      clear hx
      subst h16
      simp only [List.setIfInBounds_toArray, List.set_cons_succ, List.set_cons_zero]
      have HBW6 : Hid _ := bt HBW3.out HB6.out
      have HM6 : Hid _ := bk HB6.out HM4.out
      have HKa : Hid _ := bk HB6.out HK4.out
      have HEv : Hid (∀ W' p, Below W6.heap.size W6 W' → W'.heap[p]? = some (Obj.cells #[.int .i64 0, .int .i64 41, .string ⟨#[]⟩] 23 (0, 0)) → Calls Tryz.prog 21 #[.agg #[.int .i64 2, .int .i64 0, .int .i64 0, .int .i64 0, .string ⟨#[]⟩, .int .i64 0, .slice (some ⟨m, 0, none⟩) 2 2], .slice (some ⟨p, 0, none⟩) 1 1] W' fun e w' => e = .returned (.agg #[.int .i64 0, .int .i64 42, .string ⟨#[]⟩]) ∧ Below W'.heap.size W' w') := by
        intro W' p hW hp
        have h := Eval_c awE (some ⟨m, 0, none⟩) 2 [⟨0, 41, ⟨#[]⟩⟩] (some ⟨p, 0, none⟩) 1 W' awE_w (Nat.le_refl 2) (two_row (t := 26) (fr := (0, 0)) (x := awR) (y := awN 1) (Ax := none) (cx := 0) (Ay := none) (cy := 0) (bk hW HM6.out) (heap_lt (bk hW HM6.out)) (Nat.le_refl _) (Row.nil _) (Nat.le_refl _) (Row.nil _))
          ⟨by simp, .inr ⟨_, 0, rfl, heap_lt hp, ⟨_, rfl, fun j u hj => by
            have : j < 3 := (List.getElem?_eq_some_iff.1 hj).1
            have hc : j = 0 ∨ j = 1 ∨ j = 2 := by omega
            rcases hc with rfl | rfl | rfl <;> (injection hj with hj; subst hj; exact blk_cell hp _ rfl)⟩, trivial⟩⟩
        rw [awE_eval] at h
        exact h
      have HFm : Hid (∀ W', Below W6.heap.size W6 W' → Calls Tryz.prog 27 #[.agg #[.int .i64 2, .int .i64 0, .int .i64 0, .int .i64 0, .string ⟨#[]⟩, .int .i64 0, .slice (some ⟨m, 0, none⟩) 2 2]] W' fun e w' => e = .returned (.string ⟨#[40, 35, 48, 32, 43, 32, 49, 41]⟩) ∧ Below W'.heap.size W' w') := by
        intro W' hW
        have h := Format_c awE (some ⟨m, 0, none⟩) 2 W' (Env.below HE.out (bt HBW6.out hW)) awE_w (Nat.le_refl 2) (two_row (t := 26) (fr := (0, 0)) (x := awR) (y := awN 1) (Ax := none) (cx := 0) (Ay := none) (cy := 0) (bk hW HM6.out) (heap_lt (bk hW HM6.out)) (Nat.le_refl _) (Row.nil _) (Nat.le_refl _) (Row.nil _))
        rw [awE_text] at h
        exact h
      have HFo : Hid (∀ W', Below W6.heap.size W6 W' → Calls Tryz.prog 25 #[.agg #[.int .i64 2, .int .i64 0, .int .i64 0, .int .i64 0, .string ⟨#[]⟩, .int .i64 11, .slice (some ⟨m3, 0, none⟩) 2 2]] W' fun e w' => (∃ A c, e = .returned (.agg #[.int .i64 2, .int .i64 0, .int .i64 0, .int .i64 0, .string ⟨#[]⟩, .int .i64 7, .slice A 2 c]) ∧ 2 ≤ c ∧ ScRow (· < w'.heap.size) w' A awG.f4) ∧ Below W'.heap.size W' w') := by
        intro W' hW
        have r1 : ScRow (· < W'.heap.size) W' (some ⟨m1, 0, none⟩) [awN 1, awN 2] := two_row (t := 26) (fr := (0, 0)) (x := awN 1) (y := awN 2) (Ax := none) (cx := 0) (Ay := none) (cy := 0) (bk hW HG1.out) (heap_lt (bk hW HG1.out)) (Nat.le_refl _) (Row.nil _) (Nat.le_refl _) (Row.nil _)
        have r2 : ScRow (· < W'.heap.size) W' (some ⟨m2, 0, none⟩) [awR, awP] := two_row (t := 26) (fr := (0, 0)) (x := awR) (y := awP) (Ax := none) (cx := 0) (Ay := some ⟨m1, 0, none⟩) (cy := 2) (bk hW HG2.out) (heap_lt (bk hW HG2.out)) (Nat.le_refl _) (Row.nil _) (Nat.le_refl 2) r1
        have r3 : ScRow (· < W'.heap.size) W' (some ⟨m3, 0, none⟩) [awT, awL] := two_row (t := 26) (fr := (0, 0)) (x := awT) (y := awL) (Ax := none) (cx := 0) (Ay := some ⟨m2, 0, none⟩) (cy := 2) (bk hW HG3.out) (heap_lt (bk hW HG3.out)) (Nat.le_refl _) (Row.nil _) (Nat.le_refl 2) r2
        refine (Fold_c awF (some ⟨m3, 0, none⟩) 2 W' awF_w (Nat.le_refl 2) r3).mono ?_
        rintro e w' ⟨⟨A, c, he, hc, hr⟩, hb⟩
        rw [awF_fold] at he hc hr
        exact ⟨⟨A, c, he, hc, hr.move fun b h => ⟨by have := hb.size; omega, rfl⟩⟩, hb⟩
      have HFg : Hid (∀ W' A c, Below W6.heap.size W6 W' → (2 ≤ c ∧ ScRow (· < W'.heap.size) W' A awG.f4) → Calls Tryz.prog 27 #[.agg #[.int .i64 2, .int .i64 0, .int .i64 0, .int .i64 0, .string ⟨#[]⟩, .int .i64 7, .slice A 2 c]] W' fun e w' => e = .returned (.string ⟨#[40, 35, 48, 32, 60, 32, 51, 41]⟩) ∧ Below W'.heap.size W' w') := by
        intro W' A c hW hr
        have h := Format_c awG A c W' (Env.below HE.out (bt HBW6.out hW)) awG_w hr.1 hr.2
        rw [awG_text] at h
        exact h
      have hz := HKa.out
      have zc0 := blk_cell hz 0 rfl
      have zc1 := blk_cell hz 1 rfl
      have zc2 := blk_cell hz 2 rfl
      have zc3 := blk_cell hz 3 rfl
      have zc4 := blk_cell hz 4 rfl
      have zc5 := blk_cell hz 5 rfl
      have zc6 := blk_cell hz 6 rfl
      clear hz
      go_wp2_with fail
      refine (HEv.out _ _ (ba (Below.refl _ _) _) (alloc_at rfl)).mono ?_
      rintro e w7 ⟨rfl, hb⟩
      have HB7 : Hid (Below W6.heap.size W6 w7) := bt (ba (Below.refl _ _) _) hb
      have hz := bk HB7.out HKa.out
      clear zc0 zc1 zc2 zc3 zc4 zc5 zc6 hb
      have zc0 := blk_cell hz 0 rfl
      have zc1 := blk_cell hz 1 rfl
      have zc2 := blk_cell hz 2 rfl
      have zc3 := blk_cell hz 3 rfl
      have zc4 := blk_cell hz 4 rfl
      have zc5 := blk_cell hz 5 rfl
      have zc6 := blk_cell hz 6 rfl
      clear hz
      go_wp2_with fail
      refine (HFm.out _ HB7.out).mono ?_
      rintro e w8 ⟨rfl, hb⟩
      have HB8 : Hid (Below W6.heap.size W6 w8) := bt HB7.out hb
      have hz := bk HB8.out HK6.out
      clear zc0 zc1 zc2 zc3 zc4 zc5 zc6 hb
      have zc0 := blk_cell hz 0 rfl
      have zc1 := blk_cell hz 1 rfl
      have zc2 := blk_cell hz 2 rfl
      have zc3 := blk_cell hz 3 rfl
      have zc4 := blk_cell hz 4 rfl
      have zc5 := blk_cell hz 5 rfl
      have zc6 := blk_cell hz 6 rfl
      clear hz
      go_wp2_with fail
      refine (HFo.out _ HB8.out).mono ?_
      rintro e w9 ⟨⟨A3, c3, rfl, hrw2⟩, hb⟩
      have HB9 : Hid (Below W6.heap.size W6 w9) := bt HB8.out hb
      have HRW : Hid _ := hrw2
      clear zc0 zc1 zc2 zc3 zc4 zc5 zc6 hb hrw2
      go_wp2_with fail
      refine (HFg.out _ _ _ HB9.out HRW.out).mono ?_
      rintro e w10 ⟨rfl, hb⟩
      have HB10 : Hid (Below W6.heap.size W6 w10) := bt HB9.out hb
      clear hb
      go_wp2_with fail
      go_ret
      exact ⟨rfl, bt HBW6.out HB10.out⟩
end Go.Proofs.YtemedepjmnncbaaGreatDoor
