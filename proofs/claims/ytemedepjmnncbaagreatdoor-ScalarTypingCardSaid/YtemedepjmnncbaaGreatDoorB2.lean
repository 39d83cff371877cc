import Derived.Test.YtemedepjmnncbaaGreatDoorB1
import Derived.Test.YtemedepjmnncbaaGreatDoorFr
import Derived.Test.YtemedepjmnncbaaGreatDoorA17
namespace Go.Proofs.YtemedepjmnncbaaGreatDoor
set_option linter.unusedVariables false
set_option linter.unusedSimpArgs false
open Go.RowKit Go.Shelf Pu
def arP (o : Int) : Int := if opIn o then (ar o : Int) else -1
set_option maxHeartbeats 1000000 in
theorem Arity_c (o : Int) (w : World) : Calls Tryz.prog 91 #[.int .i64 o] w fun e w' => e = .returned (.int .i64 (arP o)) ∧ w' = w := by
  by_cases h0 : o < 0
  · have H : Hid _ := h0
    go_enter Tryz.func91, Tryz.ntmps91
    go_wp2_with fail
    go_ret
    exact ⟨ret_int (by have := H.out; simp [arP, opIn]; omega), rfl⟩
  by_cases h1 : 13 < o
  · have H : Hid _ := h1
    go_enter Tryz.func91, Tryz.ntmps91
    go_wp2_with fail
    go_ret
    exact ⟨ret_int (by have := H.out; simp [arP, opIn]; omega), rfl⟩
  have hin : opIn o = true := by simp [opIn]; omega
  have HI : Hid _ := hin
  clear hin
  by_cases h3 : o = 3
  · have h3' : (o == 3) = true := by simp [h3]
    have H : Hid _ := h3
    clear h3
    go_enter Tryz.func91, Tryz.ntmps91
    go_wp2_with fail
    go_ret
    exact ⟨ret_int (by rw [arP, HI.out, ar, if_pos (Or.inl (b := o = 13) H.out)]; rfl), rfl⟩
  have h3' : (o == 3) = false := by simp [h3]
  by_cases h4 : o = 13
  · have h4' : (o == 13) = true := by simp [h4]
    have H : Hid _ := h4
    clear h3 h4
    go_enter Tryz.func91, Tryz.ntmps91
    go_wp2_with fail
    go_ret
    exact ⟨ret_int (by rw [arP, HI.out, ar, if_pos (Or.inr (a := o = 3) H.out)]; rfl), rfl⟩
  · have h4' : (o == 13) = false := by simp [h4]
    have H : Hid (¬ (o = 3 ∨ o = 13)) := fun h => h.elim h3 h4
    clear h3 h4
    go_enter Tryz.func91, Tryz.ntmps91
    go_wp2_with fail
    go_ret
    exact ⟨ret_int (by rw [arP, HI.out, ar, if_neg H.out]; rfl), rfl⟩
theorem okT_leaf {k c o : Int} {v : Va} {l : List Sc} (hk : k = 0 ∨ k = 1) : okT ⟨k, c, v, o, l⟩ = Pu.node k c v o l.length := by
  rw [okT]
  cases l with
  | nil => simp [okTs]
  | cons x l => rcases hk with rfl | rfl <;> simp [Pu.node]
theorem okT_two {c o : Int} {v : Va} {l : List Sc} : okT ⟨2, c, v, o, l⟩ = (decide ((l.length : Int) = arP o ∧ c = 0 ∧ v = vz) && l.all okT) := by
  have h : okTs l = l.all okT := by induction l with | nil => rfl | cons x l ih => simp [okTs, ih]
  rw [okT, h, Pu.node, if_neg (by decide), if_neg (by decide), if_pos rfl, arP]
  cases ho : opIn o with
  | true =>
    have : ((l.length : Int) = (ar o : Int)) ↔ l.length = ar o := by omega
    simp [this]
  | false => simp
structure NdA (W0 W : World) (s : Nat) (p q c0 o : Int) (t : ByteArray) (A : Option Addr) (n c : Nat) (nq : Bool) (L : Nat → Prop) (x51 x52 x53 x54 x55 x56 x57 x58 x59 x60 x61 x62 x63 x64 x65 x66 x67 x68 : Value) : Prop where
  bel : Below W0.heap.size W0 W
  f0 : L 0 → x51 = .pointer (some ⟨s, 2, none⟩)
  f1 : L 1 → x52 = .agg #[.int .i64 p, .int .i64 q, .string t]
  f2 : L 2 → x53 = .agg #[.int .i64 0, .int .i64 0, .string ⟨#[]⟩]
  f3 : L 3 → x54 = .bool true
  f4 : L 4 → x55 = .bool true
  f8 : L 8 → x59 = .bool true
  f9 : L 9 → x60 = .bool true
  f17 : L 17 → x68 = .bool true
def NdAI (W0 : World) (s : Nat) (p q c0 o : Int) (t : ByteArray) (A : Option Addr) (n c : Nat) (nq : Bool) (a0 : Act) (listed : Array Bool) (a : Act) (W : World) : Prop :=
  ∃ x51 x52 x53 x54 x55 x56 x57 x58 x59 x60 x61 x62 x63 x64 x65 x66 x67 x68, a = { tmps := ((((((((((((((((((a0.tmps.setIfInBounds 51 x51).setIfInBounds 52 x52).setIfInBounds 53 x53).setIfInBounds 54 x54).setIfInBounds 55 x55).setIfInBounds 56 x56).setIfInBounds 57 x57).setIfInBounds 58 x58).setIfInBounds 59 x59).setIfInBounds 60 x60).setIfInBounds 61 x61).setIfInBounds 62 x62).setIfInBounds 63 x63).setIfInBounds 64 x64).setIfInBounds 65 x65).setIfInBounds 66 x66).setIfInBounds 67 x67).setIfInBounds 68 x68), defers := [] } ∧ NdA W0 W s p q c0 o t A n c nq (fun j => listed.getD j false = true) x51 x52 x53 x54 x55 x56 x57 x58 x59 x60 x61 x62 x63 x64 x65 x66 x67 x68
structure NdB (W0 W : World) (s : Nat) (p q c0 o : Int) (t : ByteArray) (A : Option Addr) (n c : Nat) (nq : Bool) (L : Nat → Prop) (x51 x52 x53 x54 x55 x56 x57 x58 x59 x60 x61 x62 x63 x64 x65 x66 x67 x68 : Value) : Prop where
  bel : Below W0.heap.size W0 W
  f0 : L 0 → x51 = .pointer (some ⟨s, 2, none⟩)
  f1 : L 1 → x52 = .agg #[.int .i64 p, .int .i64 q, .string t]
  f2 : L 2 → x53 = .agg #[.int .i64 0, .int .i64 0, .string ⟨#[]⟩]
  f3 : L 3 → x54 = .bool false
  f4 : L 4 → x55 = .bool false
  f5 : L 5 → x56 = .pointer (some ⟨s, 1, none⟩)
  f6 : L 6 → x57 = .int .i64 c0
  f7 : L 7 → x58 = .bool true
  f8 : L 8 → x59 = .bool true
  f9 : L 9 → x60 = .bool true
  f17 : L 17 → x68 = .bool true
def NdBI (W0 : World) (s : Nat) (p q c0 o : Int) (t : ByteArray) (A : Option Addr) (n c : Nat) (nq : Bool) (a0 : Act) (listed : Array Bool) (a : Act) (W : World) : Prop :=
  ∃ x51 x52 x53 x54 x55 x56 x57 x58 x59 x60 x61 x62 x63 x64 x65 x66 x67 x68, a = { tmps := ((((((((((((((((((a0.tmps.setIfInBounds 51 x51).setIfInBounds 52 x52).setIfInBounds 53 x53).setIfInBounds 54 x54).setIfInBounds 55 x55).setIfInBounds 56 x56).setIfInBounds 57 x57).setIfInBounds 58 x58).setIfInBounds 59 x59).setIfInBounds 60 x60).setIfInBounds 61 x61).setIfInBounds 62 x62).setIfInBounds 63 x63).setIfInBounds 64 x64).setIfInBounds 65 x65).setIfInBounds 66 x66).setIfInBounds 67 x67).setIfInBounds 68 x68), defers := [] } ∧ NdB W0 W s p q c0 o t A n c nq (fun j => listed.getD j false = true) x51 x52 x53 x54 x55 x56 x57 x58 x59 x60 x61 x62 x63 x64 x65 x66 x67 x68
structure NdC (W0 W : World) (s : Nat) (p q c0 o : Int) (t : ByteArray) (A : Option Addr) (n c : Nat) (nq : Bool) (L : Nat → Prop) (x51 x52 x53 x54 x55 x56 x57 x58 x59 x60 x61 x62 x63 x64 x65 x66 x67 x68 : Value) : Prop where
  bel : Below W0.heap.size W0 W
  f0 : L 0 → x51 = .pointer (some ⟨s, 2, none⟩)
  f1 : L 1 → x52 = .agg #[.int .i64 p, .int .i64 q, .string t]
  f2 : L 2 → x53 = .agg #[.int .i64 0, .int .i64 0, .string ⟨#[]⟩]
  f3 : L 3 → x54 = .bool false
  f4 : L 4 → x55 = .bool false
  f5 : L 5 → x56 = .pointer (some ⟨s, 1, none⟩)
  f6 : L 6 → x57 = .int .i64 c0
  f7 : L 7 → x58 = .bool false
  f8 : L 8 → x59 = .bool false
  f9 : L 9 → x60 = .bool false
  f10 : L 10 → x61 = .pointer (some ⟨s, 6, none⟩)
  f11 : L 11 → x62 = .slice A n c
  f12 : L 12 → x63 = .int .i64 (n : Int)
  f13 : L 13 → x64 = .pointer (some ⟨s, 5, none⟩)
  f14 : L 14 → x65 = .int .i64 o
  f15 : L 15 → x66 = .int .i64 (arP o)
  f16 : L 16 → x67 = .bool nq
  f17 : L 17 → x68 = .bool nq
def NdCI (W0 : World) (s : Nat) (p q c0 o : Int) (t : ByteArray) (A : Option Addr) (n c : Nat) (nq : Bool) (a0 : Act) (listed : Array Bool) (a : Act) (W : World) : Prop :=
  ∃ x51 x52 x53 x54 x55 x56 x57 x58 x59 x60 x61 x62 x63 x64 x65 x66 x67 x68, a = { tmps := ((((((((((((((((((a0.tmps.setIfInBounds 51 x51).setIfInBounds 52 x52).setIfInBounds 53 x53).setIfInBounds 54 x54).setIfInBounds 55 x55).setIfInBounds 56 x56).setIfInBounds 57 x57).setIfInBounds 58 x58).setIfInBounds 59 x59).setIfInBounds 60 x60).setIfInBounds 61 x61).setIfInBounds 62 x62).setIfInBounds 63 x63).setIfInBounds 64 x64).setIfInBounds 65 x65).setIfInBounds 66 x66).setIfInBounds 67 x67).setIfInBounds 68 x68), defers := [] } ∧ NdC W0 W s p q c0 o t A n c nq (fun j => listed.getD j false = true) x51 x52 x53 x54 x55 x56 x57 x58 x59 x60 x61 x62 x63 x64 x65 x66 x67 x68
def NodC (f : Nat) (t : Sc) : Prop := ∀ (W : World) (A : Option Addr) (c : Nat), t.f4.length ≤ c → ScRow (· < W.heap.size) W A t.f4 →
  Calls Tryz.prog f #[scV t A c] W fun e W' => e = .returned (.bool (okT t)) ∧ Below W.heap.size W W'
set_option maxRecDepth 100000 in
set_option maxHeartbeats 4000000 in
theorem rnode_c (t : Sc) : NodC 55 t := by
  refine Sc.ind (P := NodC 55) ?_ t
  intro k c0 v0 o l ih W A c hc hr
  have hlr := hr.1
  have IH : Hid _ := ih
  clear ih
  obtain ⟨p, q, s⟩ := v0
  by_cases h0 : k = 0
  · have h0' : (k == 0) = true := by simp [h0]
    have H0 : Hid _ := h0
    clear h0
    go_enter Tryz.func55, Tryz.ntmps55
    go_wp2_with fail
    refine (rvvalid_c ⟨p, q, s⟩ _).mono ?_
    rintro e w1 ⟨rfl, hb⟩
    have HB : Hid _ := hb
    have hblk := bk hb (n := W.heap.size) (alloc_at rfl)
    have zc0 := blk_cell hblk 0 rfl
    have zc1 := blk_cell hblk 1 rfl
    have zc2 := blk_cell hblk 2 rfl
    have zc3 := blk_cell hblk 3 rfl
    have zc4 := blk_cell hblk 4 rfl
    have zc5 := blk_cell hblk 5 rfl
    have zc6 := blk_cell hblk 6 rfl
    clear hb hblk
    go_wp2_with fail
    all_goals go_ret
    all_goals (refine ⟨ret_bool ?_, bt (ba (Below.refl _ _) _) HB.out⟩)
    all_goals (have h0 := H0.out; subst h0; rw [okT_leaf (.inl rfl)]; simp_all [Pu.node, len0])
  have hk0 : (k == 0) = false := by simp [h0]
  by_cases h1 : k = 1
  · have h1' : (k == 1) = true := by simp [h1]
    have H0 : Hid _ := h1
    clear h1 h0
    go_enter Tryz.func55, Tryz.ntmps55
    go_wp2_with fail
    all_goals go_ret
    all_goals (refine ⟨ret_bool ?_, (ba (Below.refl _ _) _)⟩)
    all_goals (have h0 := H0.out; subst h0; rw [okT_leaf (.inr rfl)]; simp_all [Pu.node, len0, vz, tl_nil, be])
    all_goals (intro h; exfalso; omega)
  have hk1 : (k == 1) = false := by simp [h1]
  by_cases h2 : k = 2
  · have h2' : (k == 2) = true := by simp [h2]
    have H2 : Hid _ := h2
    clear h2 h1 h0
    go_enter Tryz.func55, Tryz.ntmps55
    go_wp2_with fail
    have HK1 : Hid _ := alloc_at (W := W) (o := Obj.cells #[.int .i64 k, .int .i64 c0, .int .i64 p, .int .i64 q, .string s, .int .i64 o, .slice A l.length c] 26) rfl
    have HBB : Hid (Below W.heap.size W (W.alloc (Obj.cells #[.int .i64 k, .int .i64 c0, .int .i64 p, .int .i64 q, .string s, .int .i64 o, .slice A l.length c] 26))) := ba (Below.refl _ _) _
    generalize W.alloc (Obj.cells #[.int .i64 k, .int .i64 c0, .int .i64 p, .int .i64 q, .string s, .int .i64 o, .slice A l.length c] 26) = W1 at HK1 HBB ⊢
    have hcase : (¬ p = 0 ∨ (p = 0 ∧ ¬ q = 0) ∨ (p = 0 ∧ q = 0 ∧ ¬ s.toList = [])) ∨ ((p = 0 ∧ q = 0 ∧ s.toList = []) ∧ ¬ c0 = 0) ∨ ((p = 0 ∧ q = 0 ∧ s.toList = []) ∧ c0 = 0) := by
      by_cases h1 : p = 0 <;> by_cases h2 : q = 0 <;> by_cases h3 : s.toList = [] <;> by_cases h4 : c0 = 0 <;> simp_all
    rcases hcase with hv | ⟨⟨rfl, rfl, hs⟩, hc0⟩ | ⟨⟨rfl, rfl, hs⟩, rfl⟩
    · have HV : Hid (¬ (⟨p, q, s⟩ : Va) = vz) := by
        intro h; injection h with h1 h2 h3; subst h1 h2
        rcases hv with h | ⟨_, h⟩ | ⟨_, _, h⟩
        · exact h rfl
        · exact h rfl
        · exact h (tl_nil.2 (h3.trans be))
      rcases hv with hp | ⟨rfl, hq⟩ | ⟨rfl, rfl, hs⟩
      · refine wp_region_inv2 (by kernel_rfl) (NdAI W1 W.heap.size p q c0 o s A l.length c true) (by kernel_rfl) ?_ ?_ ?_
        · refine ⟨undef, undef, undef, undef, undef, undef, undef, undef, undef, undef, undef, undef, undef, undef, undef, undef, undef, undef, ?_, ?_⟩
          · simp only [List.setIfInBounds_toArray, List.set_cons_succ, List.set_cons_zero]
          · constructor
            · exact bd (Below.refl _ _)
            all_goals (intro h; simp at h)
        · intro listed a' WW hsz hI i hi
          obtain ⟨hi0, oj, hoj, hall⟩ := mem_ready.1 hi
          have hlt2 : i < 18 := (Array.getElem?_eq_some_iff.1 hoj).1
          obtain ⟨x51, x52, x53, x54, x55, x56, x57, x58, x59, x60, x61, x62, x63, x64, x65, x66, x67, x68, rfl, hx⟩ := hI
          have hcs : i = 0 ∨ i = 1 ∨ i = 2 ∨ i = 3 ∨ i = 4 ∨ i = 5 ∨ i = 6 ∨ i = 7 ∨ i = 8 ∨ i = 9 ∨ i = 10 ∨ i = 11 ∨ i = 12 ∨ i = 13 ∨ i = 14 ∨ i = 15 ∨ i = 16 ∨ i = 17 := by omega
          clear hlt2
          rcases hcs with rfl | rfl | rfl | rfl | rfl | rfl | rfl | rfl | rfl | rfl | rfl | rfl | rfl | rfl | rfl | rfl | rfl | rfl
          · have hJ := hoj
            simp at hJ
            have HX : Hid _ := hx
            have HI0 : Hid _ := hi0
            clear hx hall hoj hJ hi hi0
            simp only [List.setIfInBounds_toArray, List.set_cons_succ, List.set_cons_zero]
            refine wpOp_step (o := _) rfl fun K' hK => ?_
            rw [if_pos (by kernel_rfl)]
            have HK9 : Hid _ := hK
            clear hK
            go_wp2_with fail
            exact HK9.out _ _ ⟨.pointer (some ⟨W.heap.size, 2, none⟩), x52, x53, x54, x55, x56, x57, x58, x59, x60, x61, x62, x63, x64, x65, x66, x67, x68, by simp only [Act.put, List.setIfInBounds_toArray, List.set_cons_succ, List.set_cons_zero], ⟨HX.out.bel, fun _ => rfl, fun h => HX.out.f1 (lset h (by decide)), fun h => HX.out.f2 (lset h (by decide)), fun h => HX.out.f3 (lset h (by decide)), fun h => HX.out.f4 (lset h (by decide)), fun h => HX.out.f8 (lset h (by decide)), fun h => HX.out.f9 (lset h (by decide)), fun h => HX.out.f17 (lset h (by decide))⟩⟩
          · have hJ := hoj
            simp at hJ
            have l0 : listed.getD 0 false = true := hall ⟨0, .data⟩ (by subst hJ; simp) rfl
            obtain rfl := hx.f0 l0
            have hz := bk hx.bel HK1.out
            have zc0 := blk_cell hz 0 rfl
            have zc1 := blk_cell hz 1 rfl
            have zc2 := blk_cell hz 2 rfl
            have zc3 := blk_cell hz 3 rfl
            have zc4 := blk_cell hz 4 rfl
            have zc5 := blk_cell hz 5 rfl
            have zc6 := blk_cell hz 6 rfl
            clear hz
            have HX : Hid _ := hx
            have HI0 : Hid _ := hi0
            clear hx hall hoj hJ hi hi0
            simp only [List.setIfInBounds_toArray, List.set_cons_succ, List.set_cons_zero]
            refine wpOp_step (o := _) rfl fun K' hK => ?_
            rw [if_pos (by kernel_rfl)]
            have HK9 : Hid _ := hK
            clear hK
            go_wp2_with fail
            exact HK9.out _ _ ⟨.pointer (some ⟨W.heap.size, 2, none⟩), .agg #[.int .i64 p, .int .i64 q, .string s], x53, x54, x55, x56, x57, x58, x59, x60, x61, x62, x63, x64, x65, x66, x67, x68, by simp only [Act.put, List.setIfInBounds_toArray, List.set_cons_succ, List.set_cons_zero], ⟨HX.out.bel, fun h => HX.out.f0 (lset h (by decide)), fun _ => rfl, fun h => HX.out.f2 (lset h (by decide)), fun h => HX.out.f3 (lset h (by decide)), fun h => HX.out.f4 (lset h (by decide)), fun h => HX.out.f8 (lset h (by decide)), fun h => HX.out.f9 (lset h (by decide)), fun h => HX.out.f17 (lset h (by decide))⟩⟩
          · have hJ := hoj
            simp at hJ
            have HX : Hid _ := hx
            have HI0 : Hid _ := hi0
            clear hx hall hoj hJ hi hi0
            simp only [List.setIfInBounds_toArray, List.set_cons_succ, List.set_cons_zero]
            refine wpOp_step (o := _) rfl fun K' hK => ?_
            rw [if_pos (by kernel_rfl)]
            have HK9 : Hid _ := hK
            clear hK
            go_wp2_with fail
            exact HK9.out _ _ ⟨x51, x52, .agg #[.int .i64 0, .int .i64 0, .string ⟨#[]⟩], x54, x55, x56, x57, x58, x59, x60, x61, x62, x63, x64, x65, x66, x67, x68, by simp only [Act.put, List.setIfInBounds_toArray, List.set_cons_succ, List.set_cons_zero], ⟨HX.out.bel, fun h => HX.out.f0 (lset h (by decide)), fun h => HX.out.f1 (lset h (by decide)), fun _ => rfl, fun h => HX.out.f3 (lset h (by decide)), fun h => HX.out.f4 (lset h (by decide)), fun h => HX.out.f8 (lset h (by decide)), fun h => HX.out.f9 (lset h (by decide)), fun h => HX.out.f17 (lset h (by decide))⟩⟩
          · have hJ := hoj
            simp at hJ
            have l1 : listed.getD 1 false = true := hall ⟨1, .data⟩ (by subst hJ; simp) rfl
            have l2 : listed.getD 2 false = true := hall ⟨2, .data⟩ (by subst hJ; simp) rfl
            obtain rfl := hx.f1 l1
            obtain rfl := hx.f2 l2
            have HX : Hid _ := hx
            have HI0 : Hid _ := hi0
            clear hx hall hoj hJ hi hi0
            simp only [List.setIfInBounds_toArray, List.set_cons_succ, List.set_cons_zero]
            refine wpOp_step (o := _) rfl fun K' hK => ?_
            rw [if_pos (by kernel_rfl)]
            have HK9 : Hid _ := hK
            clear hK
            go_wp2_with fail
            exact HK9.out _ _ ⟨x51, .agg #[.int .i64 p, .int .i64 q, .string s], .agg #[.int .i64 0, .int .i64 0, .string ⟨#[]⟩], .bool true, x55, x56, x57, x58, x59, x60, x61, x62, x63, x64, x65, x66, x67, x68, by simp only [Act.put, List.setIfInBounds_toArray, List.set_cons_succ, List.set_cons_zero], ⟨HX.out.bel, fun h => HX.out.f0 (lset h (by decide)), fun h => HX.out.f1 (lset h (by decide)), fun h => HX.out.f2 (lset h (by decide)), fun _ => rfl, fun h => HX.out.f4 (lset h (by decide)), fun h => HX.out.f8 (lset h (by decide)), fun h => HX.out.f9 (lset h (by decide)), fun h => HX.out.f17 (lset h (by decide))⟩⟩
          · have hJ := hoj
            simp at hJ
            have l3 : listed.getD 3 false = true := hall ⟨3, .data⟩ (by subst hJ; simp) rfl
            obtain rfl := hx.f3 l3
            have HX : Hid _ := hx
            have HI0 : Hid _ := hi0
            clear hx hall hoj hJ hi hi0
            simp only [List.setIfInBounds_toArray, List.set_cons_succ, List.set_cons_zero]
            refine wpOp_step (o := _) rfl fun K' hK => ?_
            rw [if_pos (by kernel_rfl)]
            have HK9 : Hid _ := hK
            clear hK
            go_wp2_with fail
            exact HK9.out _ _ ⟨x51, x52, x53, .bool true, .bool true, x56, x57, x58, x59, x60, x61, x62, x63, x64, x65, x66, x67, x68, by simp only [Act.put, List.setIfInBounds_toArray, List.set_cons_succ, List.set_cons_zero], ⟨HX.out.bel, fun h => HX.out.f0 (lset h (by decide)), fun h => HX.out.f1 (lset h (by decide)), fun h => HX.out.f2 (lset h (by decide)), fun h => HX.out.f3 (lset h (by decide)), fun _ => rfl, fun h => HX.out.f8 (lset h (by decide)), fun h => HX.out.f9 (lset h (by decide)), fun h => HX.out.f17 (lset h (by decide))⟩⟩
          · have hJ := hoj
            simp at hJ
            have l4 : listed.getD 4 false = true := hall ⟨4, .guard⟩ (by subst hJ; simp) rfl
            obtain rfl := hx.f4 l4
            have HX : Hid _ := hx
            have HI0 : Hid _ := hi0
            clear hx hall hoj hJ hi hi0
            simp only [List.setIfInBounds_toArray, List.set_cons_succ, List.set_cons_zero]
            refine wpOp_step (o := _) rfl fun K' hK => ?_
            rw [if_neg (ne_true_of_eq_false (by kernel_rfl))]
            have HK9 : Hid _ := hK
            clear hK
            exact HK9.out _ _ ⟨x51, x52, x53, x54, .bool true, undef, x57, x58, x59, x60, x61, x62, x63, x64, x65, x66, x67, x68, by simp only [List.setIfInBounds_toArray, List.set_cons_succ, List.set_cons_zero]; rfl, ⟨HX.out.bel, fun h => HX.out.f0 (lset h (by decide)), fun h => HX.out.f1 (lset h (by decide)), fun h => HX.out.f2 (lset h (by decide)), fun h => HX.out.f3 (lset h (by decide)), fun h => HX.out.f4 (lset h (by decide)), fun h => HX.out.f8 (lset h (by decide)), fun h => HX.out.f9 (lset h (by decide)), fun h => HX.out.f17 (lset h (by decide))⟩⟩
          · have hJ := hoj
            simp at hJ
            have l5 : listed.getD 5 false = true := hall ⟨5, .data⟩ (by subst hJ; simp) rfl
            have l4 : listed.getD 4 false = true := hall ⟨4, .guard⟩ (by subst hJ; simp) rfl
            obtain rfl := hx.f4 l4
            have hz := bk hx.bel HK1.out
            have zc0 := blk_cell hz 0 rfl
            have zc1 := blk_cell hz 1 rfl
            have zc2 := blk_cell hz 2 rfl
            have zc3 := blk_cell hz 3 rfl
            have zc4 := blk_cell hz 4 rfl
            have zc5 := blk_cell hz 5 rfl
            have zc6 := blk_cell hz 6 rfl
            clear hz
            have HX : Hid _ := hx
            have HI0 : Hid _ := hi0
            clear hx hall hoj hJ hi hi0
            simp only [List.setIfInBounds_toArray, List.set_cons_succ, List.set_cons_zero]
            refine wpOp_step (o := _) rfl fun K' hK => ?_
            rw [if_neg (ne_true_of_eq_false (by kernel_rfl))]
            have HK9 : Hid _ := hK
            clear hK
            exact HK9.out _ _ ⟨x51, x52, x53, x54, .bool true, x56, undef, x58, x59, x60, x61, x62, x63, x64, x65, x66, x67, x68, by simp only [List.setIfInBounds_toArray, List.set_cons_succ, List.set_cons_zero]; rfl, ⟨HX.out.bel, fun h => HX.out.f0 (lset h (by decide)), fun h => HX.out.f1 (lset h (by decide)), fun h => HX.out.f2 (lset h (by decide)), fun h => HX.out.f3 (lset h (by decide)), fun h => HX.out.f4 (lset h (by decide)), fun h => HX.out.f8 (lset h (by decide)), fun h => HX.out.f9 (lset h (by decide)), fun h => HX.out.f17 (lset h (by decide))⟩⟩
          · have hJ := hoj
            simp at hJ
            have l6 : listed.getD 6 false = true := hall ⟨6, .data⟩ (by subst hJ; simp) rfl
            have l4 : listed.getD 4 false = true := hall ⟨4, .guard⟩ (by subst hJ; simp) rfl
            obtain rfl := hx.f4 l4
            have HX : Hid _ := hx
            have HI0 : Hid _ := hi0
            clear hx hall hoj hJ hi hi0
            simp only [List.setIfInBounds_toArray, List.set_cons_succ, List.set_cons_zero]
            refine wpOp_step (o := _) rfl fun K' hK => ?_
            rw [if_neg (ne_true_of_eq_false (by kernel_rfl))]
            have HK9 : Hid _ := hK
            clear hK
            exact HK9.out _ _ ⟨x51, x52, x53, x54, .bool true, x56, x57, undef, x59, x60, x61, x62, x63, x64, x65, x66, x67, x68, by simp only [List.setIfInBounds_toArray, List.set_cons_succ, List.set_cons_zero]; rfl, ⟨HX.out.bel, fun h => HX.out.f0 (lset h (by decide)), fun h => HX.out.f1 (lset h (by decide)), fun h => HX.out.f2 (lset h (by decide)), fun h => HX.out.f3 (lset h (by decide)), fun h => HX.out.f4 (lset h (by decide)), fun h => HX.out.f8 (lset h (by decide)), fun h => HX.out.f9 (lset h (by decide)), fun h => HX.out.f17 (lset h (by decide))⟩⟩
          · have hJ := hoj
            simp at hJ
            have l4 : listed.getD 4 false = true := hall ⟨4, .data⟩ (by subst hJ; simp) rfl
            have l7 : listed.getD 7 false = true := hall ⟨7, .data⟩ (by subst hJ; simp) rfl
            obtain rfl := hx.f4 l4
            have HX : Hid _ := hx
            have HI0 : Hid _ := hi0
            clear hx hall hoj hJ hi hi0
            simp only [List.setIfInBounds_toArray, List.set_cons_succ, List.set_cons_zero]
            refine wpOp_step (o := _) rfl fun K' hK => ?_
            rw [if_pos (by kernel_rfl)]
            have HK9 : Hid _ := hK
            clear hK
            go_wp2_with fail
            exact HK9.out _ _ ⟨x51, x52, x53, x54, .bool true, x56, x57, x58, .bool true, x60, x61, x62, x63, x64, x65, x66, x67, x68, by simp only [Act.put, List.setIfInBounds_toArray, List.set_cons_succ, List.set_cons_zero], ⟨HX.out.bel, fun h => HX.out.f0 (lset h (by decide)), fun h => HX.out.f1 (lset h (by decide)), fun h => HX.out.f2 (lset h (by decide)), fun h => HX.out.f3 (lset h (by decide)), fun h => HX.out.f4 (lset h (by decide)), fun _ => rfl, fun h => HX.out.f9 (lset h (by decide)), fun h => HX.out.f17 (lset h (by decide))⟩⟩
          · have hJ := hoj
            simp at hJ
            have l8 : listed.getD 8 false = true := hall ⟨8, .data⟩ (by subst hJ; simp) rfl
            obtain rfl := hx.f8 l8
            have HX : Hid _ := hx
            have HI0 : Hid _ := hi0
            clear hx hall hoj hJ hi hi0
            simp only [List.setIfInBounds_toArray, List.set_cons_succ, List.set_cons_zero]
            refine wpOp_step (o := _) rfl fun K' hK => ?_
            rw [if_pos (by kernel_rfl)]
            have HK9 : Hid _ := hK
            clear hK
            go_wp2_with fail
            exact HK9.out _ _ ⟨x51, x52, x53, x54, x55, x56, x57, x58, .bool true, .bool true, x61, x62, x63, x64, x65, x66, x67, x68, by simp only [Act.put, List.setIfInBounds_toArray, List.set_cons_succ, List.set_cons_zero], ⟨HX.out.bel, fun h => HX.out.f0 (lset h (by decide)), fun h => HX.out.f1 (lset h (by decide)), fun h => HX.out.f2 (lset h (by decide)), fun h => HX.out.f3 (lset h (by decide)), fun h => HX.out.f4 (lset h (by decide)), fun h => HX.out.f8 (lset h (by decide)), fun _ => rfl, fun h => HX.out.f17 (lset h (by decide))⟩⟩
          · have hJ := hoj
            simp at hJ
            have l9 : listed.getD 9 false = true := hall ⟨9, .guard⟩ (by subst hJ; simp) rfl
            obtain rfl := hx.f9 l9
            have HX : Hid _ := hx
            have HI0 : Hid _ := hi0
            clear hx hall hoj hJ hi hi0
            simp only [List.setIfInBounds_toArray, List.set_cons_succ, List.set_cons_zero]
            refine wpOp_step (o := _) rfl fun K' hK => ?_
            rw [if_neg (ne_true_of_eq_false (by kernel_rfl))]
            have HK9 : Hid _ := hK
            clear hK
            exact HK9.out _ _ ⟨x51, x52, x53, x54, x55, x56, x57, x58, x59, .bool true, undef, x62, x63, x64, x65, x66, x67, x68, by simp only [List.setIfInBounds_toArray, List.set_cons_succ, List.set_cons_zero]; rfl, ⟨HX.out.bel, fun h => HX.out.f0 (lset h (by decide)), fun h => HX.out.f1 (lset h (by decide)), fun h => HX.out.f2 (lset h (by decide)), fun h => HX.out.f3 (lset h (by decide)), fun h => HX.out.f4 (lset h (by decide)), fun h => HX.out.f8 (lset h (by decide)), fun h => HX.out.f9 (lset h (by decide)), fun h => HX.out.f17 (lset h (by decide))⟩⟩
          · have hJ := hoj
            simp at hJ
            have l10 : listed.getD 10 false = true := hall ⟨10, .data⟩ (by subst hJ; simp) rfl
            have l9 : listed.getD 9 false = true := hall ⟨9, .guard⟩ (by subst hJ; simp) rfl
            obtain rfl := hx.f9 l9
            have hz := bk hx.bel HK1.out
            have zc0 := blk_cell hz 0 rfl
            have zc1 := blk_cell hz 1 rfl
            have zc2 := blk_cell hz 2 rfl
            have zc3 := blk_cell hz 3 rfl
            have zc4 := blk_cell hz 4 rfl
            have zc5 := blk_cell hz 5 rfl
            have zc6 := blk_cell hz 6 rfl
            clear hz
            have HX : Hid _ := hx
            have HI0 : Hid _ := hi0
            clear hx hall hoj hJ hi hi0
            simp only [List.setIfInBounds_toArray, List.set_cons_succ, List.set_cons_zero]
            refine wpOp_step (o := _) rfl fun K' hK => ?_
            rw [if_neg (ne_true_of_eq_false (by kernel_rfl))]
            have HK9 : Hid _ := hK
            clear hK
            exact HK9.out _ _ ⟨x51, x52, x53, x54, x55, x56, x57, x58, x59, .bool true, x61, undef, x63, x64, x65, x66, x67, x68, by simp only [List.setIfInBounds_toArray, List.set_cons_succ, List.set_cons_zero]; rfl, ⟨HX.out.bel, fun h => HX.out.f0 (lset h (by decide)), fun h => HX.out.f1 (lset h (by decide)), fun h => HX.out.f2 (lset h (by decide)), fun h => HX.out.f3 (lset h (by decide)), fun h => HX.out.f4 (lset h (by decide)), fun h => HX.out.f8 (lset h (by decide)), fun h => HX.out.f9 (lset h (by decide)), fun h => HX.out.f17 (lset h (by decide))⟩⟩
          · have hJ := hoj
            simp at hJ
            have l11 : listed.getD 11 false = true := hall ⟨11, .data⟩ (by subst hJ; simp) rfl
            have l9 : listed.getD 9 false = true := hall ⟨9, .guard⟩ (by subst hJ; simp) rfl
            obtain rfl := hx.f9 l9
            have HX : Hid _ := hx
            have HI0 : Hid _ := hi0
            clear hx hall hoj hJ hi hi0
            simp only [List.setIfInBounds_toArray, List.set_cons_succ, List.set_cons_zero]
            refine wpOp_step (o := _) rfl fun K' hK => ?_
            rw [if_neg (ne_true_of_eq_false (by kernel_rfl))]
            have HK9 : Hid _ := hK
            clear hK
            exact HK9.out _ _ ⟨x51, x52, x53, x54, x55, x56, x57, x58, x59, .bool true, x61, x62, undef, x64, x65, x66, x67, x68, by simp only [List.setIfInBounds_toArray, List.set_cons_succ, List.set_cons_zero]; rfl, ⟨HX.out.bel, fun h => HX.out.f0 (lset h (by decide)), fun h => HX.out.f1 (lset h (by decide)), fun h => HX.out.f2 (lset h (by decide)), fun h => HX.out.f3 (lset h (by decide)), fun h => HX.out.f4 (lset h (by decide)), fun h => HX.out.f8 (lset h (by decide)), fun h => HX.out.f9 (lset h (by decide)), fun h => HX.out.f17 (lset h (by decide))⟩⟩
          · have hJ := hoj
            simp at hJ
            have l9 : listed.getD 9 false = true := hall ⟨9, .guard⟩ (by subst hJ; simp) rfl
            obtain rfl := hx.f9 l9
            have HX : Hid _ := hx
            have HI0 : Hid _ := hi0
            clear hx hall hoj hJ hi hi0
            simp only [List.setIfInBounds_toArray, List.set_cons_succ, List.set_cons_zero]
            refine wpOp_step (o := _) rfl fun K' hK => ?_
            rw [if_neg (ne_true_of_eq_false (by kernel_rfl))]
            have HK9 : Hid _ := hK
            clear hK
            exact HK9.out _ _ ⟨x51, x52, x53, x54, x55, x56, x57, x58, x59, .bool true, x61, x62, x63, undef, x65, x66, x67, x68, by simp only [List.setIfInBounds_toArray, List.set_cons_succ, List.set_cons_zero]; rfl, ⟨HX.out.bel, fun h => HX.out.f0 (lset h (by decide)), fun h => HX.out.f1 (lset h (by decide)), fun h => HX.out.f2 (lset h (by decide)), fun h => HX.out.f3 (lset h (by decide)), fun h => HX.out.f4 (lset h (by decide)), fun h => HX.out.f8 (lset h (by decide)), fun h => HX.out.f9 (lset h (by decide)), fun h => HX.out.f17 (lset h (by decide))⟩⟩
          · have hJ := hoj
            simp at hJ
            have l13 : listed.getD 13 false = true := hall ⟨13, .data⟩ (by subst hJ; simp) rfl
            have l9 : listed.getD 9 false = true := hall ⟨9, .guard⟩ (by subst hJ; simp) rfl
            obtain rfl := hx.f9 l9
            have hz := bk hx.bel HK1.out
            have zc0 := blk_cell hz 0 rfl
            have zc1 := blk_cell hz 1 rfl
            have zc2 := blk_cell hz 2 rfl
            have zc3 := blk_cell hz 3 rfl
            have zc4 := blk_cell hz 4 rfl
            have zc5 := blk_cell hz 5 rfl
            have zc6 := blk_cell hz 6 rfl
            clear hz
            have HX : Hid _ := hx
            have HI0 : Hid _ := hi0
            clear hx hall hoj hJ hi hi0
            simp only [List.setIfInBounds_toArray, List.set_cons_succ, List.set_cons_zero]
            refine wpOp_step (o := _) rfl fun K' hK => ?_
            rw [if_neg (ne_true_of_eq_false (by kernel_rfl))]
            have HK9 : Hid _ := hK
            clear hK
            exact HK9.out _ _ ⟨x51, x52, x53, x54, x55, x56, x57, x58, x59, .bool true, x61, x62, x63, x64, undef, x66, x67, x68, by simp only [List.setIfInBounds_toArray, List.set_cons_succ, List.set_cons_zero]; rfl, ⟨HX.out.bel, fun h => HX.out.f0 (lset h (by decide)), fun h => HX.out.f1 (lset h (by decide)), fun h => HX.out.f2 (lset h (by decide)), fun h => HX.out.f3 (lset h (by decide)), fun h => HX.out.f4 (lset h (by decide)), fun h => HX.out.f8 (lset h (by decide)), fun h => HX.out.f9 (lset h (by decide)), fun h => HX.out.f17 (lset h (by decide))⟩⟩
          · have hJ := hoj
            simp at hJ
            have l14 : listed.getD 14 false = true := hall ⟨14, .data⟩ (by subst hJ; simp) rfl
            have l9 : listed.getD 9 false = true := hall ⟨9, .chain⟩ (by subst hJ; simp) rfl
            obtain rfl := hx.f9 l9
            have HX : Hid _ := hx
            have HI0 : Hid _ := hi0
            clear hx hall hoj hJ hi hi0
            simp only [List.setIfInBounds_toArray, List.set_cons_succ, List.set_cons_zero]
            refine wpOp_step (o := _) rfl fun K' hK => ?_
            rw [if_neg (ne_true_of_eq_false (by kernel_rfl))]
            have HK9 : Hid _ := hK
            clear hK
            exact HK9.out _ _ ⟨x51, x52, x53, x54, x55, x56, x57, x58, x59, .bool true, x61, x62, x63, x64, x65, undef, x67, x68, by simp only [List.setIfInBounds_toArray, List.set_cons_succ, List.set_cons_zero]; rfl, ⟨HX.out.bel, fun h => HX.out.f0 (lset h (by decide)), fun h => HX.out.f1 (lset h (by decide)), fun h => HX.out.f2 (lset h (by decide)), fun h => HX.out.f3 (lset h (by decide)), fun h => HX.out.f4 (lset h (by decide)), fun h => HX.out.f8 (lset h (by decide)), fun h => HX.out.f9 (lset h (by decide)), fun h => HX.out.f17 (lset h (by decide))⟩⟩
          · have hJ := hoj
            simp at hJ
            have l12 : listed.getD 12 false = true := hall ⟨12, .data⟩ (by subst hJ; simp) rfl
            have l15 : listed.getD 15 false = true := hall ⟨15, .data⟩ (by subst hJ; simp) rfl
            have l9 : listed.getD 9 false = true := hall ⟨9, .guard⟩ (by subst hJ; simp) rfl
            obtain rfl := hx.f9 l9
            have HX : Hid _ := hx
            have HI0 : Hid _ := hi0
            clear hx hall hoj hJ hi hi0
            simp only [List.setIfInBounds_toArray, List.set_cons_succ, List.set_cons_zero]
            refine wpOp_step (o := _) rfl fun K' hK => ?_
            rw [if_neg (ne_true_of_eq_false (by kernel_rfl))]
            have HK9 : Hid _ := hK
            clear hK
            exact HK9.out _ _ ⟨x51, x52, x53, x54, x55, x56, x57, x58, x59, .bool true, x61, x62, x63, x64, x65, x66, undef, x68, by simp only [List.setIfInBounds_toArray, List.set_cons_succ, List.set_cons_zero]; rfl, ⟨HX.out.bel, fun h => HX.out.f0 (lset h (by decide)), fun h => HX.out.f1 (lset h (by decide)), fun h => HX.out.f2 (lset h (by decide)), fun h => HX.out.f3 (lset h (by decide)), fun h => HX.out.f4 (lset h (by decide)), fun h => HX.out.f8 (lset h (by decide)), fun h => HX.out.f9 (lset h (by decide)), fun h => HX.out.f17 (lset h (by decide))⟩⟩
          · have hJ := hoj
            simp at hJ
            have l9 : listed.getD 9 false = true := hall ⟨9, .data⟩ (by subst hJ; simp) rfl
            have l16 : listed.getD 16 false = true := hall ⟨16, .data⟩ (by subst hJ; simp) rfl
            obtain rfl := hx.f9 l9
            have HX : Hid _ := hx
            have HI0 : Hid _ := hi0
            clear hx hall hoj hJ hi hi0
            simp only [List.setIfInBounds_toArray, List.set_cons_succ, List.set_cons_zero]
            refine wpOp_step (o := _) rfl fun K' hK => ?_
            rw [if_pos (by kernel_rfl)]
            have HK9 : Hid _ := hK
            clear hK
            go_wp2_with fail
            exact HK9.out _ _ ⟨x51, x52, x53, x54, x55, x56, x57, x58, x59, .bool true, x61, x62, x63, x64, x65, x66, x67, .bool true, by simp only [Act.put, List.setIfInBounds_toArray, List.set_cons_succ, List.set_cons_zero], ⟨HX.out.bel, fun h => HX.out.f0 (lset h (by decide)), fun h => HX.out.f1 (lset h (by decide)), fun h => HX.out.f2 (lset h (by decide)), fun h => HX.out.f3 (lset h (by decide)), fun h => HX.out.f4 (lset h (by decide)), fun h => HX.out.f8 (lset h (by decide)), fun h => HX.out.f9 (lset h (by decide)), fun _ => rfl⟩⟩
        · rintro a' WW ⟨x51, x52, x53, x54, x55, x56, x57, x58, x59, x60, x61, x62, x63, x64, x65, x66, x67, x68, rfl, hx⟩
          have hlast := hx.f17 (by simp)
          have HB9 : Hid _ := hx.bel
          clear hx
          subst hlast
          simp only [List.setIfInBounds_toArray, List.set_cons_succ, List.set_cons_zero]
          go_wp2_with fail
          go_ret
          refine ⟨ret_bool ?_, bt HBB.out HB9.out⟩
          have h2 := H2.out
          subst h2
          rw [okT_two, decide_eq_false (fun h => HV.out h.2.2), Bool.false_and]
      · refine wp_region_inv2 (by kernel_rfl) (NdAI W1 W.heap.size 0 q c0 o s A l.length c true) (by kernel_rfl) ?_ ?_ ?_
        · refine ⟨undef, undef, undef, undef, undef, undef, undef, undef, undef, undef, undef, undef, undef, undef, undef, undef, undef, undef, ?_, ?_⟩
          · simp only [List.setIfInBounds_toArray, List.set_cons_succ, List.set_cons_zero]
          · constructor
            · exact bd (Below.refl _ _)
            all_goals (intro h; simp at h)
        · intro listed a' WW hsz hI i hi
          obtain ⟨hi0, oj, hoj, hall⟩ := mem_ready.1 hi
          have hlt2 : i < 18 := (Array.getElem?_eq_some_iff.1 hoj).1
          obtain ⟨x51, x52, x53, x54, x55, x56, x57, x58, x59, x60, x61, x62, x63, x64, x65, x66, x67, x68, rfl, hx⟩ := hI
          have hcs : i = 0 ∨ i = 1 ∨ i = 2 ∨ i = 3 ∨ i = 4 ∨ i = 5 ∨ i = 6 ∨ i = 7 ∨ i = 8 ∨ i = 9 ∨ i = 10 ∨ i = 11 ∨ i = 12 ∨ i = 13 ∨ i = 14 ∨ i = 15 ∨ i = 16 ∨ i = 17 := by omega
          clear hlt2
          rcases hcs with rfl | rfl | rfl | rfl | rfl | rfl | rfl | rfl | rfl | rfl | rfl | rfl | rfl | rfl | rfl | rfl | rfl | rfl
          · have hJ := hoj
            simp at hJ
            have HX : Hid _ := hx
            have HI0 : Hid _ := hi0
            clear hx hall hoj hJ hi hi0
            simp only [List.setIfInBounds_toArray, List.set_cons_succ, List.set_cons_zero]
            refine wpOp_step (o := _) rfl fun K' hK => ?_
            rw [if_pos (by kernel_rfl)]
            have HK9 : Hid _ := hK
            clear hK
            go_wp2_with fail
            exact HK9.out _ _ ⟨.pointer (some ⟨W.heap.size, 2, none⟩), x52, x53, x54, x55, x56, x57, x58, x59, x60, x61, x62, x63, x64, x65, x66, x67, x68, by simp only [Act.put, List.setIfInBounds_toArray, List.set_cons_succ, List.set_cons_zero], ⟨HX.out.bel, fun _ => rfl, fun h => HX.out.f1 (lset h (by decide)), fun h => HX.out.f2 (lset h (by decide)), fun h => HX.out.f3 (lset h (by decide)), fun h => HX.out.f4 (lset h (by decide)), fun h => HX.out.f8 (lset h (by decide)), fun h => HX.out.f9 (lset h (by decide)), fun h => HX.out.f17 (lset h (by decide))⟩⟩
          · have hJ := hoj
            simp at hJ
            have l0 : listed.getD 0 false = true := hall ⟨0, .data⟩ (by subst hJ; simp) rfl
            obtain rfl := hx.f0 l0
            have hz := bk hx.bel HK1.out
            have zc0 := blk_cell hz 0 rfl
            have zc1 := blk_cell hz 1 rfl
            have zc2 := blk_cell hz 2 rfl
            have zc3 := blk_cell hz 3 rfl
            have zc4 := blk_cell hz 4 rfl
            have zc5 := blk_cell hz 5 rfl
            have zc6 := blk_cell hz 6 rfl
            clear hz
            have HX : Hid _ := hx
            have HI0 : Hid _ := hi0
            clear hx hall hoj hJ hi hi0
            simp only [List.setIfInBounds_toArray, List.set_cons_succ, List.set_cons_zero]
            refine wpOp_step (o := _) rfl fun K' hK => ?_
            rw [if_pos (by kernel_rfl)]
            have HK9 : Hid _ := hK
            clear hK
            go_wp2_with fail
            exact HK9.out _ _ ⟨.pointer (some ⟨W.heap.size, 2, none⟩), .agg #[.int .i64 0, .int .i64 q, .string s], x53, x54, x55, x56, x57, x58, x59, x60, x61, x62, x63, x64, x65, x66, x67, x68, by simp only [Act.put, List.setIfInBounds_toArray, List.set_cons_succ, List.set_cons_zero], ⟨HX.out.bel, fun h => HX.out.f0 (lset h (by decide)), fun _ => rfl, fun h => HX.out.f2 (lset h (by decide)), fun h => HX.out.f3 (lset h (by decide)), fun h => HX.out.f4 (lset h (by decide)), fun h => HX.out.f8 (lset h (by decide)), fun h => HX.out.f9 (lset h (by decide)), fun h => HX.out.f17 (lset h (by decide))⟩⟩
          · have hJ := hoj
            simp at hJ
            have HX : Hid _ := hx
            have HI0 : Hid _ := hi0
            clear hx hall hoj hJ hi hi0
            simp only [List.setIfInBounds_toArray, List.set_cons_succ, List.set_cons_zero]
            refine wpOp_step (o := _) rfl fun K' hK => ?_
            rw [if_pos (by kernel_rfl)]
            have HK9 : Hid _ := hK
            clear hK
            go_wp2_with fail
            exact HK9.out _ _ ⟨x51, x52, .agg #[.int .i64 0, .int .i64 0, .string ⟨#[]⟩], x54, x55, x56, x57, x58, x59, x60, x61, x62, x63, x64, x65, x66, x67, x68, by simp only [Act.put, List.setIfInBounds_toArray, List.set_cons_succ, List.set_cons_zero], ⟨HX.out.bel, fun h => HX.out.f0 (lset h (by decide)), fun h => HX.out.f1 (lset h (by decide)), fun _ => rfl, fun h => HX.out.f3 (lset h (by decide)), fun h => HX.out.f4 (lset h (by decide)), fun h => HX.out.f8 (lset h (by decide)), fun h => HX.out.f9 (lset h (by decide)), fun h => HX.out.f17 (lset h (by decide))⟩⟩
          · have hJ := hoj
            simp at hJ
            have l1 : listed.getD 1 false = true := hall ⟨1, .data⟩ (by subst hJ; simp) rfl
            have l2 : listed.getD 2 false = true := hall ⟨2, .data⟩ (by subst hJ; simp) rfl
            obtain rfl := hx.f1 l1
            obtain rfl := hx.f2 l2
            have HX : Hid _ := hx
            have HI0 : Hid _ := hi0
            clear hx hall hoj hJ hi hi0
            simp only [List.setIfInBounds_toArray, List.set_cons_succ, List.set_cons_zero]
            refine wpOp_step (o := _) rfl fun K' hK => ?_
            rw [if_pos (by kernel_rfl)]
            have HK9 : Hid _ := hK
            clear hK
            go_wp2_with fail
            exact HK9.out _ _ ⟨x51, .agg #[.int .i64 0, .int .i64 q, .string s], .agg #[.int .i64 0, .int .i64 0, .string ⟨#[]⟩], .bool true, x55, x56, x57, x58, x59, x60, x61, x62, x63, x64, x65, x66, x67, x68, by simp only [Act.put, List.setIfInBounds_toArray, List.set_cons_succ, List.set_cons_zero], ⟨HX.out.bel, fun h => HX.out.f0 (lset h (by decide)), fun h => HX.out.f1 (lset h (by decide)), fun h => HX.out.f2 (lset h (by decide)), fun _ => rfl, fun h => HX.out.f4 (lset h (by decide)), fun h => HX.out.f8 (lset h (by decide)), fun h => HX.out.f9 (lset h (by decide)), fun h => HX.out.f17 (lset h (by decide))⟩⟩
          · have hJ := hoj
            simp at hJ
            have l3 : listed.getD 3 false = true := hall ⟨3, .data⟩ (by subst hJ; simp) rfl
            obtain rfl := hx.f3 l3
            have HX : Hid _ := hx
            have HI0 : Hid _ := hi0
            clear hx hall hoj hJ hi hi0
            simp only [List.setIfInBounds_toArray, List.set_cons_succ, List.set_cons_zero]
            refine wpOp_step (o := _) rfl fun K' hK => ?_
            rw [if_pos (by kernel_rfl)]
            have HK9 : Hid _ := hK
            clear hK
            go_wp2_with fail
            exact HK9.out _ _ ⟨x51, x52, x53, .bool true, .bool true, x56, x57, x58, x59, x60, x61, x62, x63, x64, x65, x66, x67, x68, by simp only [Act.put, List.setIfInBounds_toArray, List.set_cons_succ, List.set_cons_zero], ⟨HX.out.bel, fun h => HX.out.f0 (lset h (by decide)), fun h => HX.out.f1 (lset h (by decide)), fun h => HX.out.f2 (lset h (by decide)), fun h => HX.out.f3 (lset h (by decide)), fun _ => rfl, fun h => HX.out.f8 (lset h (by decide)), fun h => HX.out.f9 (lset h (by decide)), fun h => HX.out.f17 (lset h (by decide))⟩⟩
          · have hJ := hoj
            simp at hJ
            have l4 : listed.getD 4 false = true := hall ⟨4, .guard⟩ (by subst hJ; simp) rfl
            obtain rfl := hx.f4 l4
            have HX : Hid _ := hx
            have HI0 : Hid _ := hi0
            clear hx hall hoj hJ hi hi0
            simp only [List.setIfInBounds_toArray, List.set_cons_succ, List.set_cons_zero]
            refine wpOp_step (o := _) rfl fun K' hK => ?_
            rw [if_neg (ne_true_of_eq_false (by kernel_rfl))]
            have HK9 : Hid _ := hK
            clear hK
            exact HK9.out _ _ ⟨x51, x52, x53, x54, .bool true, undef, x57, x58, x59, x60, x61, x62, x63, x64, x65, x66, x67, x68, by simp only [List.setIfInBounds_toArray, List.set_cons_succ, List.set_cons_zero]; rfl, ⟨HX.out.bel, fun h => HX.out.f0 (lset h (by decide)), fun h => HX.out.f1 (lset h (by decide)), fun h => HX.out.f2 (lset h (by decide)), fun h => HX.out.f3 (lset h (by decide)), fun h => HX.out.f4 (lset h (by decide)), fun h => HX.out.f8 (lset h (by decide)), fun h => HX.out.f9 (lset h (by decide)), fun h => HX.out.f17 (lset h (by decide))⟩⟩
          · have hJ := hoj
            simp at hJ
            have l5 : listed.getD 5 false = true := hall ⟨5, .data⟩ (by subst hJ; simp) rfl
            have l4 : listed.getD 4 false = true := hall ⟨4, .guard⟩ (by subst hJ; simp) rfl
            obtain rfl := hx.f4 l4
            have hz := bk hx.bel HK1.out
            have zc0 := blk_cell hz 0 rfl
            have zc1 := blk_cell hz 1 rfl
            have zc2 := blk_cell hz 2 rfl
            have zc3 := blk_cell hz 3 rfl
            have zc4 := blk_cell hz 4 rfl
            have zc5 := blk_cell hz 5 rfl
            have zc6 := blk_cell hz 6 rfl
            clear hz
            have HX : Hid _ := hx
            have HI0 : Hid _ := hi0
            clear hx hall hoj hJ hi hi0
            simp only [List.setIfInBounds_toArray, List.set_cons_succ, List.set_cons_zero]
            refine wpOp_step (o := _) rfl fun K' hK => ?_
            rw [if_neg (ne_true_of_eq_false (by kernel_rfl))]
            have HK9 : Hid _ := hK
            clear hK
            exact HK9.out _ _ ⟨x51, x52, x53, x54, .bool true, x56, undef, x58, x59, x60, x61, x62, x63, x64, x65, x66, x67, x68, by simp only [List.setIfInBounds_toArray, List.set_cons_succ, List.set_cons_zero]; rfl, ⟨HX.out.bel, fun h => HX.out.f0 (lset h (by decide)), fun h => HX.out.f1 (lset h (by decide)), fun h => HX.out.f2 (lset h (by decide)), fun h => HX.out.f3 (lset h (by decide)), fun h => HX.out.f4 (lset h (by decide)), fun h => HX.out.f8 (lset h (by decide)), fun h => HX.out.f9 (lset h (by decide)), fun h => HX.out.f17 (lset h (by decide))⟩⟩
          · have hJ := hoj
            simp at hJ
            have l6 : listed.getD 6 false = true := hall ⟨6, .data⟩ (by subst hJ; simp) rfl
            have l4 : listed.getD 4 false = true := hall ⟨4, .guard⟩ (by subst hJ; simp) rfl
            obtain rfl := hx.f4 l4
            have HX : Hid _ := hx
            have HI0 : Hid _ := hi0
            clear hx hall hoj hJ hi hi0
            simp only [List.setIfInBounds_toArray, List.set_cons_succ, List.set_cons_zero]
            refine wpOp_step (o := _) rfl fun K' hK => ?_
            rw [if_neg (ne_true_of_eq_false (by kernel_rfl))]
            have HK9 : Hid _ := hK
            clear hK
            exact HK9.out _ _ ⟨x51, x52, x53, x54, .bool true, x56, x57, undef, x59, x60, x61, x62, x63, x64, x65, x66, x67, x68, by simp only [List.setIfInBounds_toArray, List.set_cons_succ, List.set_cons_zero]; rfl, ⟨HX.out.bel, fun h => HX.out.f0 (lset h (by decide)), fun h => HX.out.f1 (lset h (by decide)), fun h => HX.out.f2 (lset h (by decide)), fun h => HX.out.f3 (lset h (by decide)), fun h => HX.out.f4 (lset h (by decide)), fun h => HX.out.f8 (lset h (by decide)), fun h => HX.out.f9 (lset h (by decide)), fun h => HX.out.f17 (lset h (by decide))⟩⟩
          · have hJ := hoj
            simp at hJ
            have l4 : listed.getD 4 false = true := hall ⟨4, .data⟩ (by subst hJ; simp) rfl
            have l7 : listed.getD 7 false = true := hall ⟨7, .data⟩ (by subst hJ; simp) rfl
            obtain rfl := hx.f4 l4
            have HX : Hid _ := hx
            have HI0 : Hid _ := hi0
            clear hx hall hoj hJ hi hi0
            simp only [List.setIfInBounds_toArray, List.set_cons_succ, List.set_cons_zero]
            refine wpOp_step (o := _) rfl fun K' hK => ?_
            rw [if_pos (by kernel_rfl)]
            have HK9 : Hid _ := hK
            clear hK
            go_wp2_with fail
            exact HK9.out _ _ ⟨x51, x52, x53, x54, .bool true, x56, x57, x58, .bool true, x60, x61, x62, x63, x64, x65, x66, x67, x68, by simp only [Act.put, List.setIfInBounds_toArray, List.set_cons_succ, List.set_cons_zero], ⟨HX.out.bel, fun h => HX.out.f0 (lset h (by decide)), fun h => HX.out.f1 (lset h (by decide)), fun h => HX.out.f2 (lset h (by decide)), fun h => HX.out.f3 (lset h (by decide)), fun h => HX.out.f4 (lset h (by decide)), fun _ => rfl, fun h => HX.out.f9 (lset h (by decide)), fun h => HX.out.f17 (lset h (by decide))⟩⟩
          · have hJ := hoj
            simp at hJ
            have l8 : listed.getD 8 false = true := hall ⟨8, .data⟩ (by subst hJ; simp) rfl
            obtain rfl := hx.f8 l8
            have HX : Hid _ := hx
            have HI0 : Hid _ := hi0
            clear hx hall hoj hJ hi hi0
            simp only [List.setIfInBounds_toArray, List.set_cons_succ, List.set_cons_zero]
            refine wpOp_step (o := _) rfl fun K' hK => ?_
            rw [if_pos (by kernel_rfl)]
            have HK9 : Hid _ := hK
            clear hK
            go_wp2_with fail
            exact HK9.out _ _ ⟨x51, x52, x53, x54, x55, x56, x57, x58, .bool true, .bool true, x61, x62, x63, x64, x65, x66, x67, x68, by simp only [Act.put, List.setIfInBounds_toArray, List.set_cons_succ, List.set_cons_zero], ⟨HX.out.bel, fun h => HX.out.f0 (lset h (by decide)), fun h => HX.out.f1 (lset h (by decide)), fun h => HX.out.f2 (lset h (by decide)), fun h => HX.out.f3 (lset h (by decide)), fun h => HX.out.f4 (lset h (by decide)), fun h => HX.out.f8 (lset h (by decide)), fun _ => rfl, fun h => HX.out.f17 (lset h (by decide))⟩⟩
          · have hJ := hoj
            simp at hJ
            have l9 : listed.getD 9 false = true := hall ⟨9, .guard⟩ (by subst hJ; simp) rfl
            obtain rfl := hx.f9 l9
            have HX : Hid _ := hx
            have HI0 : Hid _ := hi0
            clear hx hall hoj hJ hi hi0
            simp only [List.setIfInBounds_toArray, List.set_cons_succ, List.set_cons_zero]
            refine wpOp_step (o := _) rfl fun K' hK => ?_
            rw [if_neg (ne_true_of_eq_false (by kernel_rfl))]
            have HK9 : Hid _ := hK
            clear hK
            exact HK9.out _ _ ⟨x51, x52, x53, x54, x55, x56, x57, x58, x59, .bool true, undef, x62, x63, x64, x65, x66, x67, x68, by simp only [List.setIfInBounds_toArray, List.set_cons_succ, List.set_cons_zero]; rfl, ⟨HX.out.bel, fun h => HX.out.f0 (lset h (by decide)), fun h => HX.out.f1 (lset h (by decide)), fun h => HX.out.f2 (lset h (by decide)), fun h => HX.out.f3 (lset h (by decide)), fun h => HX.out.f4 (lset h (by decide)), fun h => HX.out.f8 (lset h (by decide)), fun h => HX.out.f9 (lset h (by decide)), fun h => HX.out.f17 (lset h (by decide))⟩⟩
          · have hJ := hoj
            simp at hJ
            have l10 : listed.getD 10 false = true := hall ⟨10, .data⟩ (by subst hJ; simp) rfl
            have l9 : listed.getD 9 false = true := hall ⟨9, .guard⟩ (by subst hJ; simp) rfl
            obtain rfl := hx.f9 l9
            have hz := bk hx.bel HK1.out
            have zc0 := blk_cell hz 0 rfl
            have zc1 := blk_cell hz 1 rfl
            have zc2 := blk_cell hz 2 rfl
            have zc3 := blk_cell hz 3 rfl
            have zc4 := blk_cell hz 4 rfl
            have zc5 := blk_cell hz 5 rfl
            have zc6 := blk_cell hz 6 rfl
            clear hz
            have HX : Hid _ := hx
            have HI0 : Hid _ := hi0
            clear hx hall hoj hJ hi hi0
            simp only [List.setIfInBounds_toArray, List.set_cons_succ, List.set_cons_zero]
            refine wpOp_step (o := _) rfl fun K' hK => ?_
            rw [if_neg (ne_true_of_eq_false (by kernel_rfl))]
            have HK9 : Hid _ := hK
            clear hK
            exact HK9.out _ _ ⟨x51, x52, x53, x54, x55, x56, x57, x58, x59, .bool true, x61, undef, x63, x64, x65, x66, x67, x68, by simp only [List.setIfInBounds_toArray, List.set_cons_succ, List.set_cons_zero]; rfl, ⟨HX.out.bel, fun h => HX.out.f0 (lset h (by decide)), fun h => HX.out.f1 (lset h (by decide)), fun h => HX.out.f2 (lset h (by decide)), fun h => HX.out.f3 (lset h (by decide)), fun h => HX.out.f4 (lset h (by decide)), fun h => HX.out.f8 (lset h (by decide)), fun h => HX.out.f9 (lset h (by decide)), fun h => HX.out.f17 (lset h (by decide))⟩⟩
          · have hJ := hoj
            simp at hJ
            have l11 : listed.getD 11 false = true := hall ⟨11, .data⟩ (by subst hJ; simp) rfl
            have l9 : listed.getD 9 false = true := hall ⟨9, .guard⟩ (by subst hJ; simp) rfl
            obtain rfl := hx.f9 l9
            have HX : Hid _ := hx
            have HI0 : Hid _ := hi0
            clear hx hall hoj hJ hi hi0
            simp only [List.setIfInBounds_toArray, List.set_cons_succ, List.set_cons_zero]
            refine wpOp_step (o := _) rfl fun K' hK => ?_
            rw [if_neg (ne_true_of_eq_false (by kernel_rfl))]
            have HK9 : Hid _ := hK
            clear hK
            exact HK9.out _ _ ⟨x51, x52, x53, x54, x55, x56, x57, x58, x59, .bool true, x61, x62, undef, x64, x65, x66, x67, x68, by simp only [List.setIfInBounds_toArray, List.set_cons_succ, List.set_cons_zero]; rfl, ⟨HX.out.bel, fun h => HX.out.f0 (lset h (by decide)), fun h => HX.out.f1 (lset h (by decide)), fun h => HX.out.f2 (lset h (by decide)), fun h => HX.out.f3 (lset h (by decide)), fun h => HX.out.f4 (lset h (by decide)), fun h => HX.out.f8 (lset h (by decide)), fun h => HX.out.f9 (lset h (by decide)), fun h => HX.out.f17 (lset h (by decide))⟩⟩
          · have hJ := hoj
            simp at hJ
            have l9 : listed.getD 9 false = true := hall ⟨9, .guard⟩ (by subst hJ; simp) rfl
            obtain rfl := hx.f9 l9
            have HX : Hid _ := hx
            have HI0 : Hid _ := hi0
            clear hx hall hoj hJ hi hi0
            simp only [List.setIfInBounds_toArray, List.set_cons_succ, List.set_cons_zero]
            refine wpOp_step (o := _) rfl fun K' hK => ?_
            rw [if_neg (ne_true_of_eq_false (by kernel_rfl))]
            have HK9 : Hid _ := hK
            clear hK
            exact HK9.out _ _ ⟨x51, x52, x53, x54, x55, x56, x57, x58, x59, .bool true, x61, x62, x63, undef, x65, x66, x67, x68, by simp only [List.setIfInBounds_toArray, List.set_cons_succ, List.set_cons_zero]; rfl, ⟨HX.out.bel, fun h => HX.out.f0 (lset h (by decide)), fun h => HX.out.f1 (lset h (by decide)), fun h => HX.out.f2 (lset h (by decide)), fun h => HX.out.f3 (lset h (by decide)), fun h => HX.out.f4 (lset h (by decide)), fun h => HX.out.f8 (lset h (by decide)), fun h => HX.out.f9 (lset h (by decide)), fun h => HX.out.f17 (lset h (by decide))⟩⟩
          · have hJ := hoj
            simp at hJ
            have l13 : listed.getD 13 false = true := hall ⟨13, .data⟩ (by subst hJ; simp) rfl
            have l9 : listed.getD 9 false = true := hall ⟨9, .guard⟩ (by subst hJ; simp) rfl
            obtain rfl := hx.f9 l9
            have hz := bk hx.bel HK1.out
            have zc0 := blk_cell hz 0 rfl
            have zc1 := blk_cell hz 1 rfl
            have zc2 := blk_cell hz 2 rfl
            have zc3 := blk_cell hz 3 rfl
            have zc4 := blk_cell hz 4 rfl
            have zc5 := blk_cell hz 5 rfl
            have zc6 := blk_cell hz 6 rfl
            clear hz
            have HX : Hid _ := hx
            have HI0 : Hid _ := hi0
            clear hx hall hoj hJ hi hi0
            simp only [List.setIfInBounds_toArray, List.set_cons_succ, List.set_cons_zero]
            refine wpOp_step (o := _) rfl fun K' hK => ?_
            rw [if_neg (ne_true_of_eq_false (by kernel_rfl))]
            have HK9 : Hid _ := hK
            clear hK
            exact HK9.out _ _ ⟨x51, x52, x53, x54, x55, x56, x57, x58, x59, .bool true, x61, x62, x63, x64, undef, x66, x67, x68, by simp only [List.setIfInBounds_toArray, List.set_cons_succ, List.set_cons_zero]; rfl, ⟨HX.out.bel, fun h => HX.out.f0 (lset h (by decide)), fun h => HX.out.f1 (lset h (by decide)), fun h => HX.out.f2 (lset h (by decide)), fun h => HX.out.f3 (lset h (by decide)), fun h => HX.out.f4 (lset h (by decide)), fun h => HX.out.f8 (lset h (by decide)), fun h => HX.out.f9 (lset h (by decide)), fun h => HX.out.f17 (lset h (by decide))⟩⟩
          · have hJ := hoj
            simp at hJ
            have l14 : listed.getD 14 false = true := hall ⟨14, .data⟩ (by subst hJ; simp) rfl
            have l9 : listed.getD 9 false = true := hall ⟨9, .chain⟩ (by subst hJ; simp) rfl
            obtain rfl := hx.f9 l9
            have HX : Hid _ := hx
            have HI0 : Hid _ := hi0
            clear hx hall hoj hJ hi hi0
            simp only [List.setIfInBounds_toArray, List.set_cons_succ, List.set_cons_zero]
            refine wpOp_step (o := _) rfl fun K' hK => ?_
            rw [if_neg (ne_true_of_eq_false (by kernel_rfl))]
            have HK9 : Hid _ := hK
            clear hK
            exact HK9.out _ _ ⟨x51, x52, x53, x54, x55, x56, x57, x58, x59, .bool true, x61, x62, x63, x64, x65, undef, x67, x68, by simp only [List.setIfInBounds_toArray, List.set_cons_succ, List.set_cons_zero]; rfl, ⟨HX.out.bel, fun h => HX.out.f0 (lset h (by decide)), fun h => HX.out.f1 (lset h (by decide)), fun h => HX.out.f2 (lset h (by decide)), fun h => HX.out.f3 (lset h (by decide)), fun h => HX.out.f4 (lset h (by decide)), fun h => HX.out.f8 (lset h (by decide)), fun h => HX.out.f9 (lset h (by decide)), fun h => HX.out.f17 (lset h (by decide))⟩⟩
          · have hJ := hoj
            simp at hJ
            have l12 : listed.getD 12 false = true := hall ⟨12, .data⟩ (by subst hJ; simp) rfl
            have l15 : listed.getD 15 false = true := hall ⟨15, .data⟩ (by subst hJ; simp) rfl
            have l9 : listed.getD 9 false = true := hall ⟨9, .guard⟩ (by subst hJ; simp) rfl
            obtain rfl := hx.f9 l9
            have HX : Hid _ := hx
            have HI0 : Hid _ := hi0
            clear hx hall hoj hJ hi hi0
            simp only [List.setIfInBounds_toArray, List.set_cons_succ, List.set_cons_zero]
            refine wpOp_step (o := _) rfl fun K' hK => ?_
            rw [if_neg (ne_true_of_eq_false (by kernel_rfl))]
            have HK9 : Hid _ := hK
            clear hK
            exact HK9.out _ _ ⟨x51, x52, x53, x54, x55, x56, x57, x58, x59, .bool true, x61, x62, x63, x64, x65, x66, undef, x68, by simp only [List.setIfInBounds_toArray, List.set_cons_succ, List.set_cons_zero]; rfl, ⟨HX.out.bel, fun h => HX.out.f0 (lset h (by decide)), fun h => HX.out.f1 (lset h (by decide)), fun h => HX.out.f2 (lset h (by decide)), fun h => HX.out.f3 (lset h (by decide)), fun h => HX.out.f4 (lset h (by decide)), fun h => HX.out.f8 (lset h (by decide)), fun h => HX.out.f9 (lset h (by decide)), fun h => HX.out.f17 (lset h (by decide))⟩⟩
          · have hJ := hoj
            simp at hJ
            have l9 : listed.getD 9 false = true := hall ⟨9, .data⟩ (by subst hJ; simp) rfl
            have l16 : listed.getD 16 false = true := hall ⟨16, .data⟩ (by subst hJ; simp) rfl
            obtain rfl := hx.f9 l9
            have HX : Hid _ := hx
            have HI0 : Hid _ := hi0
            clear hx hall hoj hJ hi hi0
            simp only [List.setIfInBounds_toArray, List.set_cons_succ, List.set_cons_zero]
            refine wpOp_step (o := _) rfl fun K' hK => ?_
            rw [if_pos (by kernel_rfl)]
            have HK9 : Hid _ := hK
            clear hK
            go_wp2_with fail
            exact HK9.out _ _ ⟨x51, x52, x53, x54, x55, x56, x57, x58, x59, .bool true, x61, x62, x63, x64, x65, x66, x67, .bool true, by simp only [Act.put, List.setIfInBounds_toArray, List.set_cons_succ, List.set_cons_zero], ⟨HX.out.bel, fun h => HX.out.f0 (lset h (by decide)), fun h => HX.out.f1 (lset h (by decide)), fun h => HX.out.f2 (lset h (by decide)), fun h => HX.out.f3 (lset h (by decide)), fun h => HX.out.f4 (lset h (by decide)), fun h => HX.out.f8 (lset h (by decide)), fun h => HX.out.f9 (lset h (by decide)), fun _ => rfl⟩⟩
        · rintro a' WW ⟨x51, x52, x53, x54, x55, x56, x57, x58, x59, x60, x61, x62, x63, x64, x65, x66, x67, x68, rfl, hx⟩
          have hlast := hx.f17 (by simp)
          have HB9 : Hid _ := hx.bel
          clear hx
          subst hlast
          simp only [List.setIfInBounds_toArray, List.set_cons_succ, List.set_cons_zero]
          go_wp2_with fail
          go_ret
          refine ⟨ret_bool ?_, bt HBB.out HB9.out⟩
          have h2 := H2.out
          subst h2
          rw [okT_two, decide_eq_false (fun h => HV.out h.2.2), Bool.false_and]
      · refine wp_region_inv2 (by kernel_rfl) (NdAI W1 W.heap.size 0 0 c0 o s A l.length c true) (by kernel_rfl) ?_ ?_ ?_
        · refine ⟨undef, undef, undef, undef, undef, undef, undef, undef, undef, undef, undef, undef, undef, undef, undef, undef, undef, undef, ?_, ?_⟩
          · simp only [List.setIfInBounds_toArray, List.set_cons_succ, List.set_cons_zero]
          · constructor
            · exact bd (Below.refl _ _)
            all_goals (intro h; simp at h)
        · intro listed a' WW hsz hI i hi
          obtain ⟨hi0, oj, hoj, hall⟩ := mem_ready.1 hi
          have hlt2 : i < 18 := (Array.getElem?_eq_some_iff.1 hoj).1
          obtain ⟨x51, x52, x53, x54, x55, x56, x57, x58, x59, x60, x61, x62, x63, x64, x65, x66, x67, x68, rfl, hx⟩ := hI
          have hcs : i = 0 ∨ i = 1 ∨ i = 2 ∨ i = 3 ∨ i = 4 ∨ i = 5 ∨ i = 6 ∨ i = 7 ∨ i = 8 ∨ i = 9 ∨ i = 10 ∨ i = 11 ∨ i = 12 ∨ i = 13 ∨ i = 14 ∨ i = 15 ∨ i = 16 ∨ i = 17 := by omega
          clear hlt2
          rcases hcs with rfl | rfl | rfl | rfl | rfl | rfl | rfl | rfl | rfl | rfl | rfl | rfl | rfl | rfl | rfl | rfl | rfl | rfl
          · have hJ := hoj
            simp at hJ
            have HX : Hid _ := hx
            have HI0 : Hid _ := hi0
            clear hx hall hoj hJ hi hi0
            simp only [List.setIfInBounds_toArray, List.set_cons_succ, List.set_cons_zero]
            refine wpOp_step (o := _) rfl fun K' hK => ?_
            rw [if_pos (by kernel_rfl)]
            have HK9 : Hid _ := hK
            clear hK
            go_wp2_with fail
            exact HK9.out _ _ ⟨.pointer (some ⟨W.heap.size, 2, none⟩), x52, x53, x54, x55, x56, x57, x58, x59, x60, x61, x62, x63, x64, x65, x66, x67, x68, by simp only [Act.put, List.setIfInBounds_toArray, List.set_cons_succ, List.set_cons_zero], ⟨HX.out.bel, fun _ => rfl, fun h => HX.out.f1 (lset h (by decide)), fun h => HX.out.f2 (lset h (by decide)), fun h => HX.out.f3 (lset h (by decide)), fun h => HX.out.f4 (lset h (by decide)), fun h => HX.out.f8 (lset h (by decide)), fun h => HX.out.f9 (lset h (by decide)), fun h => HX.out.f17 (lset h (by decide))⟩⟩
          · have hJ := hoj
            simp at hJ
            have l0 : listed.getD 0 false = true := hall ⟨0, .data⟩ (by subst hJ; simp) rfl
            obtain rfl := hx.f0 l0
            have hz := bk hx.bel HK1.out
            have zc0 := blk_cell hz 0 rfl
            have zc1 := blk_cell hz 1 rfl
            have zc2 := blk_cell hz 2 rfl
            have zc3 := blk_cell hz 3 rfl
            have zc4 := blk_cell hz 4 rfl
            have zc5 := blk_cell hz 5 rfl
            have zc6 := blk_cell hz 6 rfl
            clear hz
            have HX : Hid _ := hx
            have HI0 : Hid _ := hi0
            clear hx hall hoj hJ hi hi0
            simp only [List.setIfInBounds_toArray, List.set_cons_succ, List.set_cons_zero]
            refine wpOp_step (o := _) rfl fun K' hK => ?_
            rw [if_pos (by kernel_rfl)]
            have HK9 : Hid _ := hK
            clear hK
            go_wp2_with fail
            exact HK9.out _ _ ⟨.pointer (some ⟨W.heap.size, 2, none⟩), .agg #[.int .i64 0, .int .i64 0, .string s], x53, x54, x55, x56, x57, x58, x59, x60, x61, x62, x63, x64, x65, x66, x67, x68, by simp only [Act.put, List.setIfInBounds_toArray, List.set_cons_succ, List.set_cons_zero], ⟨HX.out.bel, fun h => HX.out.f0 (lset h (by decide)), fun _ => rfl, fun h => HX.out.f2 (lset h (by decide)), fun h => HX.out.f3 (lset h (by decide)), fun h => HX.out.f4 (lset h (by decide)), fun h => HX.out.f8 (lset h (by decide)), fun h => HX.out.f9 (lset h (by decide)), fun h => HX.out.f17 (lset h (by decide))⟩⟩
          · have hJ := hoj
            simp at hJ
            have HX : Hid _ := hx
            have HI0 : Hid _ := hi0
            clear hx hall hoj hJ hi hi0
            simp only [List.setIfInBounds_toArray, List.set_cons_succ, List.set_cons_zero]
            refine wpOp_step (o := _) rfl fun K' hK => ?_
            rw [if_pos (by kernel_rfl)]
            have HK9 : Hid _ := hK
            clear hK
            go_wp2_with fail
            exact HK9.out _ _ ⟨x51, x52, .agg #[.int .i64 0, .int .i64 0, .string ⟨#[]⟩], x54, x55, x56, x57, x58, x59, x60, x61, x62, x63, x64, x65, x66, x67, x68, by simp only [Act.put, List.setIfInBounds_toArray, List.set_cons_succ, List.set_cons_zero], ⟨HX.out.bel, fun h => HX.out.f0 (lset h (by decide)), fun h => HX.out.f1 (lset h (by decide)), fun _ => rfl, fun h => HX.out.f3 (lset h (by decide)), fun h => HX.out.f4 (lset h (by decide)), fun h => HX.out.f8 (lset h (by decide)), fun h => HX.out.f9 (lset h (by decide)), fun h => HX.out.f17 (lset h (by decide))⟩⟩
          · have hJ := hoj
            simp at hJ
            have l1 : listed.getD 1 false = true := hall ⟨1, .data⟩ (by subst hJ; simp) rfl
            have l2 : listed.getD 2 false = true := hall ⟨2, .data⟩ (by subst hJ; simp) rfl
            obtain rfl := hx.f1 l1
            obtain rfl := hx.f2 l2
            have HX : Hid _ := hx
            have HI0 : Hid _ := hi0
            clear hx hall hoj hJ hi hi0
            simp only [List.setIfInBounds_toArray, List.set_cons_succ, List.set_cons_zero]
            refine wpOp_step (o := _) rfl fun K' hK => ?_
            rw [if_pos (by kernel_rfl)]
            have HK9 : Hid _ := hK
            clear hK
            go_wp2_with fail
            exact HK9.out _ _ ⟨x51, .agg #[.int .i64 0, .int .i64 0, .string s], .agg #[.int .i64 0, .int .i64 0, .string ⟨#[]⟩], .bool true, x55, x56, x57, x58, x59, x60, x61, x62, x63, x64, x65, x66, x67, x68, by simp only [Act.put, List.setIfInBounds_toArray, List.set_cons_succ, List.set_cons_zero], ⟨HX.out.bel, fun h => HX.out.f0 (lset h (by decide)), fun h => HX.out.f1 (lset h (by decide)), fun h => HX.out.f2 (lset h (by decide)), fun _ => rfl, fun h => HX.out.f4 (lset h (by decide)), fun h => HX.out.f8 (lset h (by decide)), fun h => HX.out.f9 (lset h (by decide)), fun h => HX.out.f17 (lset h (by decide))⟩⟩
          · have hJ := hoj
            simp at hJ
            have l3 : listed.getD 3 false = true := hall ⟨3, .data⟩ (by subst hJ; simp) rfl
            obtain rfl := hx.f3 l3
            have HX : Hid _ := hx
            have HI0 : Hid _ := hi0
            clear hx hall hoj hJ hi hi0
            simp only [List.setIfInBounds_toArray, List.set_cons_succ, List.set_cons_zero]
            refine wpOp_step (o := _) rfl fun K' hK => ?_
            rw [if_pos (by kernel_rfl)]
            have HK9 : Hid _ := hK
            clear hK
            go_wp2_with fail
            exact HK9.out _ _ ⟨x51, x52, x53, .bool true, .bool true, x56, x57, x58, x59, x60, x61, x62, x63, x64, x65, x66, x67, x68, by simp only [Act.put, List.setIfInBounds_toArray, List.set_cons_succ, List.set_cons_zero], ⟨HX.out.bel, fun h => HX.out.f0 (lset h (by decide)), fun h => HX.out.f1 (lset h (by decide)), fun h => HX.out.f2 (lset h (by decide)), fun h => HX.out.f3 (lset h (by decide)), fun _ => rfl, fun h => HX.out.f8 (lset h (by decide)), fun h => HX.out.f9 (lset h (by decide)), fun h => HX.out.f17 (lset h (by decide))⟩⟩
          · have hJ := hoj
            simp at hJ
            have l4 : listed.getD 4 false = true := hall ⟨4, .guard⟩ (by subst hJ; simp) rfl
            obtain rfl := hx.f4 l4
            have HX : Hid _ := hx
            have HI0 : Hid _ := hi0
            clear hx hall hoj hJ hi hi0
            simp only [List.setIfInBounds_toArray, List.set_cons_succ, List.set_cons_zero]
            refine wpOp_step (o := _) rfl fun K' hK => ?_
            rw [if_neg (ne_true_of_eq_false (by kernel_rfl))]
            have HK9 : Hid _ := hK
            clear hK
            exact HK9.out _ _ ⟨x51, x52, x53, x54, .bool true, undef, x57, x58, x59, x60, x61, x62, x63, x64, x65, x66, x67, x68, by simp only [List.setIfInBounds_toArray, List.set_cons_succ, List.set_cons_zero]; rfl, ⟨HX.out.bel, fun h => HX.out.f0 (lset h (by decide)), fun h => HX.out.f1 (lset h (by decide)), fun h => HX.out.f2 (lset h (by decide)), fun h => HX.out.f3 (lset h (by decide)), fun h => HX.out.f4 (lset h (by decide)), fun h => HX.out.f8 (lset h (by decide)), fun h => HX.out.f9 (lset h (by decide)), fun h => HX.out.f17 (lset h (by decide))⟩⟩
          · have hJ := hoj
            simp at hJ
            have l5 : listed.getD 5 false = true := hall ⟨5, .data⟩ (by subst hJ; simp) rfl
            have l4 : listed.getD 4 false = true := hall ⟨4, .guard⟩ (by subst hJ; simp) rfl
            obtain rfl := hx.f4 l4
            have hz := bk hx.bel HK1.out
            have zc0 := blk_cell hz 0 rfl
            have zc1 := blk_cell hz 1 rfl
            have zc2 := blk_cell hz 2 rfl
            have zc3 := blk_cell hz 3 rfl
            have zc4 := blk_cell hz 4 rfl
            have zc5 := blk_cell hz 5 rfl
            have zc6 := blk_cell hz 6 rfl
            clear hz
            have HX : Hid _ := hx
            have HI0 : Hid _ := hi0
            clear hx hall hoj hJ hi hi0
            simp only [List.setIfInBounds_toArray, List.set_cons_succ, List.set_cons_zero]
            refine wpOp_step (o := _) rfl fun K' hK => ?_
            rw [if_neg (ne_true_of_eq_false (by kernel_rfl))]
            have HK9 : Hid _ := hK
            clear hK
            exact HK9.out _ _ ⟨x51, x52, x53, x54, .bool true, x56, undef, x58, x59, x60, x61, x62, x63, x64, x65, x66, x67, x68, by simp only [List.setIfInBounds_toArray, List.set_cons_succ, List.set_cons_zero]; rfl, ⟨HX.out.bel, fun h => HX.out.f0 (lset h (by decide)), fun h => HX.out.f1 (lset h (by decide)), fun h => HX.out.f2 (lset h (by decide)), fun h => HX.out.f3 (lset h (by decide)), fun h => HX.out.f4 (lset h (by decide)), fun h => HX.out.f8 (lset h (by decide)), fun h => HX.out.f9 (lset h (by decide)), fun h => HX.out.f17 (lset h (by decide))⟩⟩
          · have hJ := hoj
            simp at hJ
            have l6 : listed.getD 6 false = true := hall ⟨6, .data⟩ (by subst hJ; simp) rfl
            have l4 : listed.getD 4 false = true := hall ⟨4, .guard⟩ (by subst hJ; simp) rfl
            obtain rfl := hx.f4 l4
            have HX : Hid _ := hx
            have HI0 : Hid _ := hi0
            clear hx hall hoj hJ hi hi0
            simp only [List.setIfInBounds_toArray, List.set_cons_succ, List.set_cons_zero]
            refine wpOp_step (o := _) rfl fun K' hK => ?_
            rw [if_neg (ne_true_of_eq_false (by kernel_rfl))]
            have HK9 : Hid _ := hK
            clear hK
            exact HK9.out _ _ ⟨x51, x52, x53, x54, .bool true, x56, x57, undef, x59, x60, x61, x62, x63, x64, x65, x66, x67, x68, by simp only [List.setIfInBounds_toArray, List.set_cons_succ, List.set_cons_zero]; rfl, ⟨HX.out.bel, fun h => HX.out.f0 (lset h (by decide)), fun h => HX.out.f1 (lset h (by decide)), fun h => HX.out.f2 (lset h (by decide)), fun h => HX.out.f3 (lset h (by decide)), fun h => HX.out.f4 (lset h (by decide)), fun h => HX.out.f8 (lset h (by decide)), fun h => HX.out.f9 (lset h (by decide)), fun h => HX.out.f17 (lset h (by decide))⟩⟩
          · have hJ := hoj
            simp at hJ
            have l4 : listed.getD 4 false = true := hall ⟨4, .data⟩ (by subst hJ; simp) rfl
            have l7 : listed.getD 7 false = true := hall ⟨7, .data⟩ (by subst hJ; simp) rfl
            obtain rfl := hx.f4 l4
            have HX : Hid _ := hx
            have HI0 : Hid _ := hi0
            clear hx hall hoj hJ hi hi0
            simp only [List.setIfInBounds_toArray, List.set_cons_succ, List.set_cons_zero]
            refine wpOp_step (o := _) rfl fun K' hK => ?_
            rw [if_pos (by kernel_rfl)]
            have HK9 : Hid _ := hK
            clear hK
            go_wp2_with fail
            exact HK9.out _ _ ⟨x51, x52, x53, x54, .bool true, x56, x57, x58, .bool true, x60, x61, x62, x63, x64, x65, x66, x67, x68, by simp only [Act.put, List.setIfInBounds_toArray, List.set_cons_succ, List.set_cons_zero], ⟨HX.out.bel, fun h => HX.out.f0 (lset h (by decide)), fun h => HX.out.f1 (lset h (by decide)), fun h => HX.out.f2 (lset h (by decide)), fun h => HX.out.f3 (lset h (by decide)), fun h => HX.out.f4 (lset h (by decide)), fun _ => rfl, fun h => HX.out.f9 (lset h (by decide)), fun h => HX.out.f17 (lset h (by decide))⟩⟩
          · have hJ := hoj
            simp at hJ
            have l8 : listed.getD 8 false = true := hall ⟨8, .data⟩ (by subst hJ; simp) rfl
            obtain rfl := hx.f8 l8
            have HX : Hid _ := hx
            have HI0 : Hid _ := hi0
            clear hx hall hoj hJ hi hi0
            simp only [List.setIfInBounds_toArray, List.set_cons_succ, List.set_cons_zero]
            refine wpOp_step (o := _) rfl fun K' hK => ?_
            rw [if_pos (by kernel_rfl)]
            have HK9 : Hid _ := hK
            clear hK
            go_wp2_with fail
            exact HK9.out _ _ ⟨x51, x52, x53, x54, x55, x56, x57, x58, .bool true, .bool true, x61, x62, x63, x64, x65, x66, x67, x68, by simp only [Act.put, List.setIfInBounds_toArray, List.set_cons_succ, List.set_cons_zero], ⟨HX.out.bel, fun h => HX.out.f0 (lset h (by decide)), fun h => HX.out.f1 (lset h (by decide)), fun h => HX.out.f2 (lset h (by decide)), fun h => HX.out.f3 (lset h (by decide)), fun h => HX.out.f4 (lset h (by decide)), fun h => HX.out.f8 (lset h (by decide)), fun _ => rfl, fun h => HX.out.f17 (lset h (by decide))⟩⟩
          · have hJ := hoj
            simp at hJ
            have l9 : listed.getD 9 false = true := hall ⟨9, .guard⟩ (by subst hJ; simp) rfl
            obtain rfl := hx.f9 l9
            have HX : Hid _ := hx
            have HI0 : Hid _ := hi0
            clear hx hall hoj hJ hi hi0
            simp only [List.setIfInBounds_toArray, List.set_cons_succ, List.set_cons_zero]
            refine wpOp_step (o := _) rfl fun K' hK => ?_
            rw [if_neg (ne_true_of_eq_false (by kernel_rfl))]
            have HK9 : Hid _ := hK
            clear hK
            exact HK9.out _ _ ⟨x51, x52, x53, x54, x55, x56, x57, x58, x59, .bool true, undef, x62, x63, x64, x65, x66, x67, x68, by simp only [List.setIfInBounds_toArray, List.set_cons_succ, List.set_cons_zero]; rfl, ⟨HX.out.bel, fun h => HX.out.f0 (lset h (by decide)), fun h => HX.out.f1 (lset h (by decide)), fun h => HX.out.f2 (lset h (by decide)), fun h => HX.out.f3 (lset h (by decide)), fun h => HX.out.f4 (lset h (by decide)), fun h => HX.out.f8 (lset h (by decide)), fun h => HX.out.f9 (lset h (by decide)), fun h => HX.out.f17 (lset h (by decide))⟩⟩
          · have hJ := hoj
            simp at hJ
            have l10 : listed.getD 10 false = true := hall ⟨10, .data⟩ (by subst hJ; simp) rfl
            have l9 : listed.getD 9 false = true := hall ⟨9, .guard⟩ (by subst hJ; simp) rfl
            obtain rfl := hx.f9 l9
            have hz := bk hx.bel HK1.out
            have zc0 := blk_cell hz 0 rfl
            have zc1 := blk_cell hz 1 rfl
            have zc2 := blk_cell hz 2 rfl
            have zc3 := blk_cell hz 3 rfl
            have zc4 := blk_cell hz 4 rfl
            have zc5 := blk_cell hz 5 rfl
            have zc6 := blk_cell hz 6 rfl
            clear hz
            have HX : Hid _ := hx
            have HI0 : Hid _ := hi0
            clear hx hall hoj hJ hi hi0
            simp only [List.setIfInBounds_toArray, List.set_cons_succ, List.set_cons_zero]
            refine wpOp_step (o := _) rfl fun K' hK => ?_
            rw [if_neg (ne_true_of_eq_false (by kernel_rfl))]
            have HK9 : Hid _ := hK
            clear hK
            exact HK9.out _ _ ⟨x51, x52, x53, x54, x55, x56, x57, x58, x59, .bool true, x61, undef, x63, x64, x65, x66, x67, x68, by simp only [List.setIfInBounds_toArray, List.set_cons_succ, List.set_cons_zero]; rfl, ⟨HX.out.bel, fun h => HX.out.f0 (lset h (by decide)), fun h => HX.out.f1 (lset h (by decide)), fun h => HX.out.f2 (lset h (by decide)), fun h => HX.out.f3 (lset h (by decide)), fun h => HX.out.f4 (lset h (by decide)), fun h => HX.out.f8 (lset h (by decide)), fun h => HX.out.f9 (lset h (by decide)), fun h => HX.out.f17 (lset h (by decide))⟩⟩
          · have hJ := hoj
            simp at hJ
            have l11 : listed.getD 11 false = true := hall ⟨11, .data⟩ (by subst hJ; simp) rfl
            have l9 : listed.getD 9 false = true := hall ⟨9, .guard⟩ (by subst hJ; simp) rfl
            obtain rfl := hx.f9 l9
            have HX : Hid _ := hx
            have HI0 : Hid _ := hi0
            clear hx hall hoj hJ hi hi0
            simp only [List.setIfInBounds_toArray, List.set_cons_succ, List.set_cons_zero]
            refine wpOp_step (o := _) rfl fun K' hK => ?_
            rw [if_neg (ne_true_of_eq_false (by kernel_rfl))]
            have HK9 : Hid _ := hK
            clear hK
            exact HK9.out _ _ ⟨x51, x52, x53, x54, x55, x56, x57, x58, x59, .bool true, x61, x62, undef, x64, x65, x66, x67, x68, by simp only [List.setIfInBounds_toArray, List.set_cons_succ, List.set_cons_zero]; rfl, ⟨HX.out.bel, fun h => HX.out.f0 (lset h (by decide)), fun h => HX.out.f1 (lset h (by decide)), fun h => HX.out.f2 (lset h (by decide)), fun h => HX.out.f3 (lset h (by decide)), fun h => HX.out.f4 (lset h (by decide)), fun h => HX.out.f8 (lset h (by decide)), fun h => HX.out.f9 (lset h (by decide)), fun h => HX.out.f17 (lset h (by decide))⟩⟩
          · have hJ := hoj
            simp at hJ
            have l9 : listed.getD 9 false = true := hall ⟨9, .guard⟩ (by subst hJ; simp) rfl
            obtain rfl := hx.f9 l9
            have HX : Hid _ := hx
            have HI0 : Hid _ := hi0
            clear hx hall hoj hJ hi hi0
            simp only [List.setIfInBounds_toArray, List.set_cons_succ, List.set_cons_zero]
            refine wpOp_step (o := _) rfl fun K' hK => ?_
            rw [if_neg (ne_true_of_eq_false (by kernel_rfl))]
            have HK9 : Hid _ := hK
            clear hK
            exact HK9.out _ _ ⟨x51, x52, x53, x54, x55, x56, x57, x58, x59, .bool true, x61, x62, x63, undef, x65, x66, x67, x68, by simp only [List.setIfInBounds_toArray, List.set_cons_succ, List.set_cons_zero]; rfl, ⟨HX.out.bel, fun h => HX.out.f0 (lset h (by decide)), fun h => HX.out.f1 (lset h (by decide)), fun h => HX.out.f2 (lset h (by decide)), fun h => HX.out.f3 (lset h (by decide)), fun h => HX.out.f4 (lset h (by decide)), fun h => HX.out.f8 (lset h (by decide)), fun h => HX.out.f9 (lset h (by decide)), fun h => HX.out.f17 (lset h (by decide))⟩⟩
          · have hJ := hoj
            simp at hJ
            have l13 : listed.getD 13 false = true := hall ⟨13, .data⟩ (by subst hJ; simp) rfl
            have l9 : listed.getD 9 false = true := hall ⟨9, .guard⟩ (by subst hJ; simp) rfl
            obtain rfl := hx.f9 l9
            have hz := bk hx.bel HK1.out
            have zc0 := blk_cell hz 0 rfl
            have zc1 := blk_cell hz 1 rfl
            have zc2 := blk_cell hz 2 rfl
            have zc3 := blk_cell hz 3 rfl
            have zc4 := blk_cell hz 4 rfl
            have zc5 := blk_cell hz 5 rfl
            have zc6 := blk_cell hz 6 rfl
            clear hz
            have HX : Hid _ := hx
            have HI0 : Hid _ := hi0
            clear hx hall hoj hJ hi hi0
            simp only [List.setIfInBounds_toArray, List.set_cons_succ, List.set_cons_zero]
            refine wpOp_step (o := _) rfl fun K' hK => ?_
            rw [if_neg (ne_true_of_eq_false (by kernel_rfl))]
            have HK9 : Hid _ := hK
            clear hK
            exact HK9.out _ _ ⟨x51, x52, x53, x54, x55, x56, x57, x58, x59, .bool true, x61, x62, x63, x64, undef, x66, x67, x68, by simp only [List.setIfInBounds_toArray, List.set_cons_succ, List.set_cons_zero]; rfl, ⟨HX.out.bel, fun h => HX.out.f0 (lset h (by decide)), fun h => HX.out.f1 (lset h (by decide)), fun h => HX.out.f2 (lset h (by decide)), fun h => HX.out.f3 (lset h (by decide)), fun h => HX.out.f4 (lset h (by decide)), fun h => HX.out.f8 (lset h (by decide)), fun h => HX.out.f9 (lset h (by decide)), fun h => HX.out.f17 (lset h (by decide))⟩⟩
          · have hJ := hoj
            simp at hJ
            have l14 : listed.getD 14 false = true := hall ⟨14, .data⟩ (by subst hJ; simp) rfl
            have l9 : listed.getD 9 false = true := hall ⟨9, .chain⟩ (by subst hJ; simp) rfl
            obtain rfl := hx.f9 l9
            have HX : Hid _ := hx
            have HI0 : Hid _ := hi0
            clear hx hall hoj hJ hi hi0
            simp only [List.setIfInBounds_toArray, List.set_cons_succ, List.set_cons_zero]
            refine wpOp_step (o := _) rfl fun K' hK => ?_
            rw [if_neg (ne_true_of_eq_false (by kernel_rfl))]
            have HK9 : Hid _ := hK
            clear hK
            exact HK9.out _ _ ⟨x51, x52, x53, x54, x55, x56, x57, x58, x59, .bool true, x61, x62, x63, x64, x65, undef, x67, x68, by simp only [List.setIfInBounds_toArray, List.set_cons_succ, List.set_cons_zero]; rfl, ⟨HX.out.bel, fun h => HX.out.f0 (lset h (by decide)), fun h => HX.out.f1 (lset h (by decide)), fun h => HX.out.f2 (lset h (by decide)), fun h => HX.out.f3 (lset h (by decide)), fun h => HX.out.f4 (lset h (by decide)), fun h => HX.out.f8 (lset h (by decide)), fun h => HX.out.f9 (lset h (by decide)), fun h => HX.out.f17 (lset h (by decide))⟩⟩
          · have hJ := hoj
            simp at hJ
            have l12 : listed.getD 12 false = true := hall ⟨12, .data⟩ (by subst hJ; simp) rfl
            have l15 : listed.getD 15 false = true := hall ⟨15, .data⟩ (by subst hJ; simp) rfl
            have l9 : listed.getD 9 false = true := hall ⟨9, .guard⟩ (by subst hJ; simp) rfl
            obtain rfl := hx.f9 l9
            have HX : Hid _ := hx
            have HI0 : Hid _ := hi0
            clear hx hall hoj hJ hi hi0
            simp only [List.setIfInBounds_toArray, List.set_cons_succ, List.set_cons_zero]
            refine wpOp_step (o := _) rfl fun K' hK => ?_
            rw [if_neg (ne_true_of_eq_false (by kernel_rfl))]
            have HK9 : Hid _ := hK
            clear hK
            exact HK9.out _ _ ⟨x51, x52, x53, x54, x55, x56, x57, x58, x59, .bool true, x61, x62, x63, x64, x65, x66, undef, x68, by simp only [List.setIfInBounds_toArray, List.set_cons_succ, List.set_cons_zero]; rfl, ⟨HX.out.bel, fun h => HX.out.f0 (lset h (by decide)), fun h => HX.out.f1 (lset h (by decide)), fun h => HX.out.f2 (lset h (by decide)), fun h => HX.out.f3 (lset h (by decide)), fun h => HX.out.f4 (lset h (by decide)), fun h => HX.out.f8 (lset h (by decide)), fun h => HX.out.f9 (lset h (by decide)), fun h => HX.out.f17 (lset h (by decide))⟩⟩
          · have hJ := hoj
            simp at hJ
            have l9 : listed.getD 9 false = true := hall ⟨9, .data⟩ (by subst hJ; simp) rfl
            have l16 : listed.getD 16 false = true := hall ⟨16, .data⟩ (by subst hJ; simp) rfl
            obtain rfl := hx.f9 l9
            have HX : Hid _ := hx
            have HI0 : Hid _ := hi0
            clear hx hall hoj hJ hi hi0
            simp only [List.setIfInBounds_toArray, List.set_cons_succ, List.set_cons_zero]
            refine wpOp_step (o := _) rfl fun K' hK => ?_
            rw [if_pos (by kernel_rfl)]
            have HK9 : Hid _ := hK
            clear hK
            go_wp2_with fail
            exact HK9.out _ _ ⟨x51, x52, x53, x54, x55, x56, x57, x58, x59, .bool true, x61, x62, x63, x64, x65, x66, x67, .bool true, by simp only [Act.put, List.setIfInBounds_toArray, List.set_cons_succ, List.set_cons_zero], ⟨HX.out.bel, fun h => HX.out.f0 (lset h (by decide)), fun h => HX.out.f1 (lset h (by decide)), fun h => HX.out.f2 (lset h (by decide)), fun h => HX.out.f3 (lset h (by decide)), fun h => HX.out.f4 (lset h (by decide)), fun h => HX.out.f8 (lset h (by decide)), fun h => HX.out.f9 (lset h (by decide)), fun _ => rfl⟩⟩
        · rintro a' WW ⟨x51, x52, x53, x54, x55, x56, x57, x58, x59, x60, x61, x62, x63, x64, x65, x66, x67, x68, rfl, hx⟩
          have hlast := hx.f17 (by simp)
          have HB9 : Hid _ := hx.bel
          clear hx
          subst hlast
          simp only [List.setIfInBounds_toArray, List.set_cons_succ, List.set_cons_zero]
          go_wp2_with fail
          go_ret
          refine ⟨ret_bool ?_, bt HBB.out HB9.out⟩
          have h2 := H2.out
          subst h2
          rw [okT_two, decide_eq_false (fun h => HV.out h.2.2), Bool.false_and]
    · have hs' : s = ⟨#[]⟩ := (tl_nil.1 hs).trans be.symm
      subst hs'
      have HC0 : Hid _ := hc0
      have hc0' : (c0 != 0) = true := by simp [hc0]
      clear hs
      · refine wp_region_inv2 (by kernel_rfl) (NdBI W1 W.heap.size 0 0 c0 o ⟨#[]⟩ A l.length c true) (by kernel_rfl) ?_ ?_ ?_
        · refine ⟨undef, undef, undef, undef, undef, undef, undef, undef, undef, undef, undef, undef, undef, undef, undef, undef, undef, undef, ?_, ?_⟩
          · simp only [List.setIfInBounds_toArray, List.set_cons_succ, List.set_cons_zero]
          · constructor
            · exact bd (Below.refl _ _)
            all_goals (intro h; simp at h)
        · intro listed a' WW hsz hI i hi
          obtain ⟨hi0, oj, hoj, hall⟩ := mem_ready.1 hi
          have hlt2 : i < 18 := (Array.getElem?_eq_some_iff.1 hoj).1
          obtain ⟨x51, x52, x53, x54, x55, x56, x57, x58, x59, x60, x61, x62, x63, x64, x65, x66, x67, x68, rfl, hx⟩ := hI
          have hcs : i = 0 ∨ i = 1 ∨ i = 2 ∨ i = 3 ∨ i = 4 ∨ i = 5 ∨ i = 6 ∨ i = 7 ∨ i = 8 ∨ i = 9 ∨ i = 10 ∨ i = 11 ∨ i = 12 ∨ i = 13 ∨ i = 14 ∨ i = 15 ∨ i = 16 ∨ i = 17 := by omega
          clear hlt2
          rcases hcs with rfl | rfl | rfl | rfl | rfl | rfl | rfl | rfl | rfl | rfl | rfl | rfl | rfl | rfl | rfl | rfl | rfl | rfl
          · have hJ := hoj
            simp at hJ
            have HX : Hid _ := hx
            have HI0 : Hid _ := hi0
            clear hx hall hoj hJ hi hi0
            simp only [List.setIfInBounds_toArray, List.set_cons_succ, List.set_cons_zero]
            refine wpOp_step (o := _) rfl fun K' hK => ?_
            rw [if_pos (by kernel_rfl)]
            have HK9 : Hid _ := hK
            clear hK
            go_wp2_with fail
            exact HK9.out _ _ ⟨.pointer (some ⟨W.heap.size, 2, none⟩), x52, x53, x54, x55, x56, x57, x58, x59, x60, x61, x62, x63, x64, x65, x66, x67, x68, by simp only [Act.put, List.setIfInBounds_toArray, List.set_cons_succ, List.set_cons_zero], ⟨HX.out.bel, fun _ => rfl, fun h => HX.out.f1 (lset h (by decide)), fun h => HX.out.f2 (lset h (by decide)), fun h => HX.out.f3 (lset h (by decide)), fun h => HX.out.f4 (lset h (by decide)), fun h => HX.out.f5 (lset h (by decide)), fun h => HX.out.f6 (lset h (by decide)), fun h => HX.out.f7 (lset h (by decide)), fun h => HX.out.f8 (lset h (by decide)), fun h => HX.out.f9 (lset h (by decide)), fun h => HX.out.f17 (lset h (by decide))⟩⟩
          · have hJ := hoj
            simp at hJ
            have l0 : listed.getD 0 false = true := hall ⟨0, .data⟩ (by subst hJ; simp) rfl
            obtain rfl := hx.f0 l0
            have hz := bk hx.bel HK1.out
            have zc0 := blk_cell hz 0 rfl
            have zc1 := blk_cell hz 1 rfl
            have zc2 := blk_cell hz 2 rfl
            have zc3 := blk_cell hz 3 rfl
            have zc4 := blk_cell hz 4 rfl
            have zc5 := blk_cell hz 5 rfl
            have zc6 := blk_cell hz 6 rfl
            clear hz
            have HX : Hid _ := hx
            have HI0 : Hid _ := hi0
            clear hx hall hoj hJ hi hi0
            simp only [List.setIfInBounds_toArray, List.set_cons_succ, List.set_cons_zero]
            refine wpOp_step (o := _) rfl fun K' hK => ?_
            rw [if_pos (by kernel_rfl)]
            have HK9 : Hid _ := hK
            clear hK
            go_wp2_with fail
            exact HK9.out _ _ ⟨.pointer (some ⟨W.heap.size, 2, none⟩), .agg #[.int .i64 0, .int .i64 0, .string ⟨#[]⟩], x53, x54, x55, x56, x57, x58, x59, x60, x61, x62, x63, x64, x65, x66, x67, x68, by simp only [Act.put, List.setIfInBounds_toArray, List.set_cons_succ, List.set_cons_zero], ⟨HX.out.bel, fun h => HX.out.f0 (lset h (by decide)), fun _ => rfl, fun h => HX.out.f2 (lset h (by decide)), fun h => HX.out.f3 (lset h (by decide)), fun h => HX.out.f4 (lset h (by decide)), fun h => HX.out.f5 (lset h (by decide)), fun h => HX.out.f6 (lset h (by decide)), fun h => HX.out.f7 (lset h (by decide)), fun h => HX.out.f8 (lset h (by decide)), fun h => HX.out.f9 (lset h (by decide)), fun h => HX.out.f17 (lset h (by decide))⟩⟩
          · have hJ := hoj
            simp at hJ
            have HX : Hid _ := hx
            have HI0 : Hid _ := hi0
            clear hx hall hoj hJ hi hi0
            simp only [List.setIfInBounds_toArray, List.set_cons_succ, List.set_cons_zero]
            refine wpOp_step (o := _) rfl fun K' hK => ?_
            rw [if_pos (by kernel_rfl)]
            have HK9 : Hid _ := hK
            clear hK
            go_wp2_with fail
            exact HK9.out _ _ ⟨x51, x52, .agg #[.int .i64 0, .int .i64 0, .string ⟨#[]⟩], x54, x55, x56, x57, x58, x59, x60, x61, x62, x63, x64, x65, x66, x67, x68, by simp only [Act.put, List.setIfInBounds_toArray, List.set_cons_succ, List.set_cons_zero], ⟨HX.out.bel, fun h => HX.out.f0 (lset h (by decide)), fun h => HX.out.f1 (lset h (by decide)), fun _ => rfl, fun h => HX.out.f3 (lset h (by decide)), fun h => HX.out.f4 (lset h (by decide)), fun h => HX.out.f5 (lset h (by decide)), fun h => HX.out.f6 (lset h (by decide)), fun h => HX.out.f7 (lset h (by decide)), fun h => HX.out.f8 (lset h (by decide)), fun h => HX.out.f9 (lset h (by decide)), fun h => HX.out.f17 (lset h (by decide))⟩⟩
          · have hJ := hoj
            simp at hJ
            have l1 : listed.getD 1 false = true := hall ⟨1, .data⟩ (by subst hJ; simp) rfl
            have l2 : listed.getD 2 false = true := hall ⟨2, .data⟩ (by subst hJ; simp) rfl
            obtain rfl := hx.f1 l1
            obtain rfl := hx.f2 l2
            have HX : Hid _ := hx
            have HI0 : Hid _ := hi0
            clear hx hall hoj hJ hi hi0
            simp only [List.setIfInBounds_toArray, List.set_cons_succ, List.set_cons_zero]
            refine wpOp_step (o := _) rfl fun K' hK => ?_
            rw [if_pos (by kernel_rfl)]
            have HK9 : Hid _ := hK
            clear hK
            go_wp2_with fail
            exact HK9.out _ _ ⟨x51, .agg #[.int .i64 0, .int .i64 0, .string ⟨#[]⟩], .agg #[.int .i64 0, .int .i64 0, .string ⟨#[]⟩], .bool false, x55, x56, x57, x58, x59, x60, x61, x62, x63, x64, x65, x66, x67, x68, by simp only [Act.put, List.setIfInBounds_toArray, List.set_cons_succ, List.set_cons_zero], ⟨HX.out.bel, fun h => HX.out.f0 (lset h (by decide)), fun h => HX.out.f1 (lset h (by decide)), fun h => HX.out.f2 (lset h (by decide)), fun _ => rfl, fun h => HX.out.f4 (lset h (by decide)), fun h => HX.out.f5 (lset h (by decide)), fun h => HX.out.f6 (lset h (by decide)), fun h => HX.out.f7 (lset h (by decide)), fun h => HX.out.f8 (lset h (by decide)), fun h => HX.out.f9 (lset h (by decide)), fun h => HX.out.f17 (lset h (by decide))⟩⟩
          · have hJ := hoj
            simp at hJ
            have l3 : listed.getD 3 false = true := hall ⟨3, .data⟩ (by subst hJ; simp) rfl
            obtain rfl := hx.f3 l3
            have HX : Hid _ := hx
            have HI0 : Hid _ := hi0
            clear hx hall hoj hJ hi hi0
            simp only [List.setIfInBounds_toArray, List.set_cons_succ, List.set_cons_zero]
            refine wpOp_step (o := _) rfl fun K' hK => ?_
            rw [if_pos (by kernel_rfl)]
            have HK9 : Hid _ := hK
            clear hK
            go_wp2_with fail
            exact HK9.out _ _ ⟨x51, x52, x53, .bool false, .bool false, x56, x57, x58, x59, x60, x61, x62, x63, x64, x65, x66, x67, x68, by simp only [Act.put, List.setIfInBounds_toArray, List.set_cons_succ, List.set_cons_zero], ⟨HX.out.bel, fun h => HX.out.f0 (lset h (by decide)), fun h => HX.out.f1 (lset h (by decide)), fun h => HX.out.f2 (lset h (by decide)), fun h => HX.out.f3 (lset h (by decide)), fun _ => rfl, fun h => HX.out.f5 (lset h (by decide)), fun h => HX.out.f6 (lset h (by decide)), fun h => HX.out.f7 (lset h (by decide)), fun h => HX.out.f8 (lset h (by decide)), fun h => HX.out.f9 (lset h (by decide)), fun h => HX.out.f17 (lset h (by decide))⟩⟩
          · have hJ := hoj
            simp at hJ
            have l4 : listed.getD 4 false = true := hall ⟨4, .guard⟩ (by subst hJ; simp) rfl
            obtain rfl := hx.f4 l4
            have HX : Hid _ := hx
            have HI0 : Hid _ := hi0
            clear hx hall hoj hJ hi hi0
            simp only [List.setIfInBounds_toArray, List.set_cons_succ, List.set_cons_zero]
            refine wpOp_step (o := _) rfl fun K' hK => ?_
            rw [if_pos (by kernel_rfl)]
            have HK9 : Hid _ := hK
            clear hK
            go_wp2_with fail
            exact HK9.out _ _ ⟨x51, x52, x53, x54, .bool false, .pointer (some ⟨W.heap.size, 1, none⟩), x57, x58, x59, x60, x61, x62, x63, x64, x65, x66, x67, x68, by simp only [Act.put, List.setIfInBounds_toArray, List.set_cons_succ, List.set_cons_zero], ⟨HX.out.bel, fun h => HX.out.f0 (lset h (by decide)), fun h => HX.out.f1 (lset h (by decide)), fun h => HX.out.f2 (lset h (by decide)), fun h => HX.out.f3 (lset h (by decide)), fun h => HX.out.f4 (lset h (by decide)), fun _ => rfl, fun h => HX.out.f6 (lset h (by decide)), fun h => HX.out.f7 (lset h (by decide)), fun h => HX.out.f8 (lset h (by decide)), fun h => HX.out.f9 (lset h (by decide)), fun h => HX.out.f17 (lset h (by decide))⟩⟩
          · have hJ := hoj
            simp at hJ
            have l5 : listed.getD 5 false = true := hall ⟨5, .data⟩ (by subst hJ; simp) rfl
            have l4 : listed.getD 4 false = true := hall ⟨4, .guard⟩ (by subst hJ; simp) rfl
            obtain rfl := hx.f5 l5
            obtain rfl := hx.f4 l4
            have hz := bk hx.bel HK1.out
            have zc0 := blk_cell hz 0 rfl
            have zc1 := blk_cell hz 1 rfl
            have zc2 := blk_cell hz 2 rfl
            have zc3 := blk_cell hz 3 rfl
            have zc4 := blk_cell hz 4 rfl
            have zc5 := blk_cell hz 5 rfl
            have zc6 := blk_cell hz 6 rfl
            clear hz
            have HX : Hid _ := hx
            have HI0 : Hid _ := hi0
            clear hx hall hoj hJ hi hi0
            simp only [List.setIfInBounds_toArray, List.set_cons_succ, List.set_cons_zero]
            refine wpOp_step (o := _) rfl fun K' hK => ?_
            rw [if_pos (by kernel_rfl)]
            have HK9 : Hid _ := hK
            clear hK
            go_wp2_with fail
            exact HK9.out _ _ ⟨x51, x52, x53, x54, .bool false, .pointer (some ⟨W.heap.size, 1, none⟩), .int .i64 c0, x58, x59, x60, x61, x62, x63, x64, x65, x66, x67, x68, by simp only [Act.put, List.setIfInBounds_toArray, List.set_cons_succ, List.set_cons_zero], ⟨HX.out.bel, fun h => HX.out.f0 (lset h (by decide)), fun h => HX.out.f1 (lset h (by decide)), fun h => HX.out.f2 (lset h (by decide)), fun h => HX.out.f3 (lset h (by decide)), fun h => HX.out.f4 (lset h (by decide)), fun h => HX.out.f5 (lset h (by decide)), fun _ => rfl, fun h => HX.out.f7 (lset h (by decide)), fun h => HX.out.f8 (lset h (by decide)), fun h => HX.out.f9 (lset h (by decide)), fun h => HX.out.f17 (lset h (by decide))⟩⟩
          · have hJ := hoj
            simp at hJ
            have l6 : listed.getD 6 false = true := hall ⟨6, .data⟩ (by subst hJ; simp) rfl
            have l4 : listed.getD 4 false = true := hall ⟨4, .guard⟩ (by subst hJ; simp) rfl
            obtain rfl := hx.f6 l6
            obtain rfl := hx.f4 l4
            have HX : Hid _ := hx
            have HI0 : Hid _ := hi0
            clear hx hall hoj hJ hi hi0
            simp only [List.setIfInBounds_toArray, List.set_cons_succ, List.set_cons_zero]
            refine wpOp_step (o := _) rfl fun K' hK => ?_
            rw [if_pos (by kernel_rfl)]
            have HK9 : Hid _ := hK
            clear hK
            go_wp2_with fail
            exact HK9.out _ _ ⟨x51, x52, x53, x54, .bool false, x56, .int .i64 c0, .bool true, x59, x60, x61, x62, x63, x64, x65, x66, x67, x68, by simp only [Act.put, List.setIfInBounds_toArray, List.set_cons_succ, List.set_cons_zero], ⟨HX.out.bel, fun h => HX.out.f0 (lset h (by decide)), fun h => HX.out.f1 (lset h (by decide)), fun h => HX.out.f2 (lset h (by decide)), fun h => HX.out.f3 (lset h (by decide)), fun h => HX.out.f4 (lset h (by decide)), fun h => HX.out.f5 (lset h (by decide)), fun h => HX.out.f6 (lset h (by decide)), fun _ => rfl, fun h => HX.out.f8 (lset h (by decide)), fun h => HX.out.f9 (lset h (by decide)), fun h => HX.out.f17 (lset h (by decide))⟩⟩
          · have hJ := hoj
            simp at hJ
            have l4 : listed.getD 4 false = true := hall ⟨4, .data⟩ (by subst hJ; simp) rfl
            have l7 : listed.getD 7 false = true := hall ⟨7, .data⟩ (by subst hJ; simp) rfl
            obtain rfl := hx.f4 l4
            obtain rfl := hx.f7 l7
            have HX : Hid _ := hx
            have HI0 : Hid _ := hi0
            clear hx hall hoj hJ hi hi0
            simp only [List.setIfInBounds_toArray, List.set_cons_succ, List.set_cons_zero]
            refine wpOp_step (o := _) rfl fun K' hK => ?_
            rw [if_pos (by kernel_rfl)]
            have HK9 : Hid _ := hK
            clear hK
            go_wp2_with fail
            exact HK9.out _ _ ⟨x51, x52, x53, x54, .bool false, x56, x57, .bool true, .bool true, x60, x61, x62, x63, x64, x65, x66, x67, x68, by simp only [Act.put, List.setIfInBounds_toArray, List.set_cons_succ, List.set_cons_zero], ⟨HX.out.bel, fun h => HX.out.f0 (lset h (by decide)), fun h => HX.out.f1 (lset h (by decide)), fun h => HX.out.f2 (lset h (by decide)), fun h => HX.out.f3 (lset h (by decide)), fun h => HX.out.f4 (lset h (by decide)), fun h => HX.out.f5 (lset h (by decide)), fun h => HX.out.f6 (lset h (by decide)), fun h => HX.out.f7 (lset h (by decide)), fun _ => rfl, fun h => HX.out.f9 (lset h (by decide)), fun h => HX.out.f17 (lset h (by decide))⟩⟩
          · have hJ := hoj
            simp at hJ
            have l8 : listed.getD 8 false = true := hall ⟨8, .data⟩ (by subst hJ; simp) rfl
            obtain rfl := hx.f8 l8
            have HX : Hid _ := hx
            have HI0 : Hid _ := hi0
            clear hx hall hoj hJ hi hi0
            simp only [List.setIfInBounds_toArray, List.set_cons_succ, List.set_cons_zero]
            refine wpOp_step (o := _) rfl fun K' hK => ?_
            rw [if_pos (by kernel_rfl)]
            have HK9 : Hid _ := hK
            clear hK
            go_wp2_with fail
            exact HK9.out _ _ ⟨x51, x52, x53, x54, x55, x56, x57, x58, .bool true, .bool true, x61, x62, x63, x64, x65, x66, x67, x68, by simp only [Act.put, List.setIfInBounds_toArray, List.set_cons_succ, List.set_cons_zero], ⟨HX.out.bel, fun h => HX.out.f0 (lset h (by decide)), fun h => HX.out.f1 (lset h (by decide)), fun h => HX.out.f2 (lset h (by decide)), fun h => HX.out.f3 (lset h (by decide)), fun h => HX.out.f4 (lset h (by decide)), fun h => HX.out.f5 (lset h (by decide)), fun h => HX.out.f6 (lset h (by decide)), fun h => HX.out.f7 (lset h (by decide)), fun h => HX.out.f8 (lset h (by decide)), fun _ => rfl, fun h => HX.out.f17 (lset h (by decide))⟩⟩
          · have hJ := hoj
            simp at hJ
            have l9 : listed.getD 9 false = true := hall ⟨9, .guard⟩ (by subst hJ; simp) rfl
            obtain rfl := hx.f9 l9
            have HX : Hid _ := hx
            have HI0 : Hid _ := hi0
            clear hx hall hoj hJ hi hi0
            simp only [List.setIfInBounds_toArray, List.set_cons_succ, List.set_cons_zero]
            refine wpOp_step (o := _) rfl fun K' hK => ?_
            rw [if_neg (ne_true_of_eq_false (by kernel_rfl))]
            have HK9 : Hid _ := hK
            clear hK
            exact HK9.out _ _ ⟨x51, x52, x53, x54, x55, x56, x57, x58, x59, .bool true, undef, x62, x63, x64, x65, x66, x67, x68, by simp only [List.setIfInBounds_toArray, List.set_cons_succ, List.set_cons_zero]; rfl, ⟨HX.out.bel, fun h => HX.out.f0 (lset h (by decide)), fun h => HX.out.f1 (lset h (by decide)), fun h => HX.out.f2 (lset h (by decide)), fun h => HX.out.f3 (lset h (by decide)), fun h => HX.out.f4 (lset h (by decide)), fun h => HX.out.f5 (lset h (by decide)), fun h => HX.out.f6 (lset h (by decide)), fun h => HX.out.f7 (lset h (by decide)), fun h => HX.out.f8 (lset h (by decide)), fun h => HX.out.f9 (lset h (by decide)), fun h => HX.out.f17 (lset h (by decide))⟩⟩
          · have hJ := hoj
            simp at hJ
            have l10 : listed.getD 10 false = true := hall ⟨10, .data⟩ (by subst hJ; simp) rfl
            have l9 : listed.getD 9 false = true := hall ⟨9, .guard⟩ (by subst hJ; simp) rfl
            obtain rfl := hx.f9 l9
            have hz := bk hx.bel HK1.out
            have zc0 := blk_cell hz 0 rfl
            have zc1 := blk_cell hz 1 rfl
            have zc2 := blk_cell hz 2 rfl
            have zc3 := blk_cell hz 3 rfl
            have zc4 := blk_cell hz 4 rfl
            have zc5 := blk_cell hz 5 rfl
            have zc6 := blk_cell hz 6 rfl
            clear hz
            have HX : Hid _ := hx
            have HI0 : Hid _ := hi0
            clear hx hall hoj hJ hi hi0
            simp only [List.setIfInBounds_toArray, List.set_cons_succ, List.set_cons_zero]
            refine wpOp_step (o := _) rfl fun K' hK => ?_
            rw [if_neg (ne_true_of_eq_false (by kernel_rfl))]
            have HK9 : Hid _ := hK
            clear hK
            exact HK9.out _ _ ⟨x51, x52, x53, x54, x55, x56, x57, x58, x59, .bool true, x61, undef, x63, x64, x65, x66, x67, x68, by simp only [List.setIfInBounds_toArray, List.set_cons_succ, List.set_cons_zero]; rfl, ⟨HX.out.bel, fun h => HX.out.f0 (lset h (by decide)), fun h => HX.out.f1 (lset h (by decide)), fun h => HX.out.f2 (lset h (by decide)), fun h => HX.out.f3 (lset h (by decide)), fun h => HX.out.f4 (lset h (by decide)), fun h => HX.out.f5 (lset h (by decide)), fun h => HX.out.f6 (lset h (by decide)), fun h => HX.out.f7 (lset h (by decide)), fun h => HX.out.f8 (lset h (by decide)), fun h => HX.out.f9 (lset h (by decide)), fun h => HX.out.f17 (lset h (by decide))⟩⟩
          · have hJ := hoj
            simp at hJ
            have l11 : listed.getD 11 false = true := hall ⟨11, .data⟩ (by subst hJ; simp) rfl
            have l9 : listed.getD 9 false = true := hall ⟨9, .guard⟩ (by subst hJ; simp) rfl
            obtain rfl := hx.f9 l9
            have HX : Hid _ := hx
            have HI0 : Hid _ := hi0
            clear hx hall hoj hJ hi hi0
            simp only [List.setIfInBounds_toArray, List.set_cons_succ, List.set_cons_zero]
            refine wpOp_step (o := _) rfl fun K' hK => ?_
            rw [if_neg (ne_true_of_eq_false (by kernel_rfl))]
            have HK9 : Hid _ := hK
            clear hK
            exact HK9.out _ _ ⟨x51, x52, x53, x54, x55, x56, x57, x58, x59, .bool true, x61, x62, undef, x64, x65, x66, x67, x68, by simp only [List.setIfInBounds_toArray, List.set_cons_succ, List.set_cons_zero]; rfl, ⟨HX.out.bel, fun h => HX.out.f0 (lset h (by decide)), fun h => HX.out.f1 (lset h (by decide)), fun h => HX.out.f2 (lset h (by decide)), fun h => HX.out.f3 (lset h (by decide)), fun h => HX.out.f4 (lset h (by decide)), fun h => HX.out.f5 (lset h (by decide)), fun h => HX.out.f6 (lset h (by decide)), fun h => HX.out.f7 (lset h (by decide)), fun h => HX.out.f8 (lset h (by decide)), fun h => HX.out.f9 (lset h (by decide)), fun h => HX.out.f17 (lset h (by decide))⟩⟩
          · have hJ := hoj
            simp at hJ
            have l9 : listed.getD 9 false = true := hall ⟨9, .guard⟩ (by subst hJ; simp) rfl
            obtain rfl := hx.f9 l9
            have HX : Hid _ := hx
            have HI0 : Hid _ := hi0
            clear hx hall hoj hJ hi hi0
            simp only [List.setIfInBounds_toArray, List.set_cons_succ, List.set_cons_zero]
            refine wpOp_step (o := _) rfl fun K' hK => ?_
            rw [if_neg (ne_true_of_eq_false (by kernel_rfl))]
            have HK9 : Hid _ := hK
            clear hK
            exact HK9.out _ _ ⟨x51, x52, x53, x54, x55, x56, x57, x58, x59, .bool true, x61, x62, x63, undef, x65, x66, x67, x68, by simp only [List.setIfInBounds_toArray, List.set_cons_succ, List.set_cons_zero]; rfl, ⟨HX.out.bel, fun h => HX.out.f0 (lset h (by decide)), fun h => HX.out.f1 (lset h (by decide)), fun h => HX.out.f2 (lset h (by decide)), fun h => HX.out.f3 (lset h (by decide)), fun h => HX.out.f4 (lset h (by decide)), fun h => HX.out.f5 (lset h (by decide)), fun h => HX.out.f6 (lset h (by decide)), fun h => HX.out.f7 (lset h (by decide)), fun h => HX.out.f8 (lset h (by decide)), fun h => HX.out.f9 (lset h (by decide)), fun h => HX.out.f17 (lset h (by decide))⟩⟩
          · have hJ := hoj
            simp at hJ
            have l13 : listed.getD 13 false = true := hall ⟨13, .data⟩ (by subst hJ; simp) rfl
            have l9 : listed.getD 9 false = true := hall ⟨9, .guard⟩ (by subst hJ; simp) rfl
            obtain rfl := hx.f9 l9
            have hz := bk hx.bel HK1.out
            have zc0 := blk_cell hz 0 rfl
            have zc1 := blk_cell hz 1 rfl
            have zc2 := blk_cell hz 2 rfl
            have zc3 := blk_cell hz 3 rfl
            have zc4 := blk_cell hz 4 rfl
            have zc5 := blk_cell hz 5 rfl
            have zc6 := blk_cell hz 6 rfl
            clear hz
            have HX : Hid _ := hx
            have HI0 : Hid _ := hi0
            clear hx hall hoj hJ hi hi0
            simp only [List.setIfInBounds_toArray, List.set_cons_succ, List.set_cons_zero]
            refine wpOp_step (o := _) rfl fun K' hK => ?_
            rw [if_neg (ne_true_of_eq_false (by kernel_rfl))]
            have HK9 : Hid _ := hK
            clear hK
            exact HK9.out _ _ ⟨x51, x52, x53, x54, x55, x56, x57, x58, x59, .bool true, x61, x62, x63, x64, undef, x66, x67, x68, by simp only [List.setIfInBounds_toArray, List.set_cons_succ, List.set_cons_zero]; rfl, ⟨HX.out.bel, fun h => HX.out.f0 (lset h (by decide)), fun h => HX.out.f1 (lset h (by decide)), fun h => HX.out.f2 (lset h (by decide)), fun h => HX.out.f3 (lset h (by decide)), fun h => HX.out.f4 (lset h (by decide)), fun h => HX.out.f5 (lset h (by decide)), fun h => HX.out.f6 (lset h (by decide)), fun h => HX.out.f7 (lset h (by decide)), fun h => HX.out.f8 (lset h (by decide)), fun h => HX.out.f9 (lset h (by decide)), fun h => HX.out.f17 (lset h (by decide))⟩⟩
          · have hJ := hoj
            simp at hJ
            have l14 : listed.getD 14 false = true := hall ⟨14, .data⟩ (by subst hJ; simp) rfl
            have l9 : listed.getD 9 false = true := hall ⟨9, .chain⟩ (by subst hJ; simp) rfl
            obtain rfl := hx.f9 l9
            have HX : Hid _ := hx
            have HI0 : Hid _ := hi0
            clear hx hall hoj hJ hi hi0
            simp only [List.setIfInBounds_toArray, List.set_cons_succ, List.set_cons_zero]
            refine wpOp_step (o := _) rfl fun K' hK => ?_
            rw [if_neg (ne_true_of_eq_false (by kernel_rfl))]
            have HK9 : Hid _ := hK
            clear hK
            exact HK9.out _ _ ⟨x51, x52, x53, x54, x55, x56, x57, x58, x59, .bool true, x61, x62, x63, x64, x65, undef, x67, x68, by simp only [List.setIfInBounds_toArray, List.set_cons_succ, List.set_cons_zero]; rfl, ⟨HX.out.bel, fun h => HX.out.f0 (lset h (by decide)), fun h => HX.out.f1 (lset h (by decide)), fun h => HX.out.f2 (lset h (by decide)), fun h => HX.out.f3 (lset h (by decide)), fun h => HX.out.f4 (lset h (by decide)), fun h => HX.out.f5 (lset h (by decide)), fun h => HX.out.f6 (lset h (by decide)), fun h => HX.out.f7 (lset h (by decide)), fun h => HX.out.f8 (lset h (by decide)), fun h => HX.out.f9 (lset h (by decide)), fun h => HX.out.f17 (lset h (by decide))⟩⟩
          · have hJ := hoj
            simp at hJ
            have l12 : listed.getD 12 false = true := hall ⟨12, .data⟩ (by subst hJ; simp) rfl
            have l15 : listed.getD 15 false = true := hall ⟨15, .data⟩ (by subst hJ; simp) rfl
            have l9 : listed.getD 9 false = true := hall ⟨9, .guard⟩ (by subst hJ; simp) rfl
            obtain rfl := hx.f9 l9
            have HX : Hid _ := hx
            have HI0 : Hid _ := hi0
            clear hx hall hoj hJ hi hi0
            simp only [List.setIfInBounds_toArray, List.set_cons_succ, List.set_cons_zero]
            refine wpOp_step (o := _) rfl fun K' hK => ?_
            rw [if_neg (ne_true_of_eq_false (by kernel_rfl))]
            have HK9 : Hid _ := hK
            clear hK
            exact HK9.out _ _ ⟨x51, x52, x53, x54, x55, x56, x57, x58, x59, .bool true, x61, x62, x63, x64, x65, x66, undef, x68, by simp only [List.setIfInBounds_toArray, List.set_cons_succ, List.set_cons_zero]; rfl, ⟨HX.out.bel, fun h => HX.out.f0 (lset h (by decide)), fun h => HX.out.f1 (lset h (by decide)), fun h => HX.out.f2 (lset h (by decide)), fun h => HX.out.f3 (lset h (by decide)), fun h => HX.out.f4 (lset h (by decide)), fun h => HX.out.f5 (lset h (by decide)), fun h => HX.out.f6 (lset h (by decide)), fun h => HX.out.f7 (lset h (by decide)), fun h => HX.out.f8 (lset h (by decide)), fun h => HX.out.f9 (lset h (by decide)), fun h => HX.out.f17 (lset h (by decide))⟩⟩
          · have hJ := hoj
            simp at hJ
            have l9 : listed.getD 9 false = true := hall ⟨9, .data⟩ (by subst hJ; simp) rfl
            have l16 : listed.getD 16 false = true := hall ⟨16, .data⟩ (by subst hJ; simp) rfl
            obtain rfl := hx.f9 l9
            have HX : Hid _ := hx
            have HI0 : Hid _ := hi0
            clear hx hall hoj hJ hi hi0
            simp only [List.setIfInBounds_toArray, List.set_cons_succ, List.set_cons_zero]
            refine wpOp_step (o := _) rfl fun K' hK => ?_
            rw [if_pos (by kernel_rfl)]
            have HK9 : Hid _ := hK
            clear hK
            go_wp2_with fail
            exact HK9.out _ _ ⟨x51, x52, x53, x54, x55, x56, x57, x58, x59, .bool true, x61, x62, x63, x64, x65, x66, x67, .bool true, by simp only [Act.put, List.setIfInBounds_toArray, List.set_cons_succ, List.set_cons_zero], ⟨HX.out.bel, fun h => HX.out.f0 (lset h (by decide)), fun h => HX.out.f1 (lset h (by decide)), fun h => HX.out.f2 (lset h (by decide)), fun h => HX.out.f3 (lset h (by decide)), fun h => HX.out.f4 (lset h (by decide)), fun h => HX.out.f5 (lset h (by decide)), fun h => HX.out.f6 (lset h (by decide)), fun h => HX.out.f7 (lset h (by decide)), fun h => HX.out.f8 (lset h (by decide)), fun h => HX.out.f9 (lset h (by decide)), fun _ => rfl⟩⟩
        · rintro a' WW ⟨x51, x52, x53, x54, x55, x56, x57, x58, x59, x60, x61, x62, x63, x64, x65, x66, x67, x68, rfl, hx⟩
          have hlast := hx.f17 (by simp)
          have HB9 : Hid _ := hx.bel
          clear hx
          subst hlast
          simp only [List.setIfInBounds_toArray, List.set_cons_succ, List.set_cons_zero]
          go_wp2_with fail
          go_ret
          refine ⟨ret_bool ?_, bt HBB.out HB9.out⟩
          have h2 := H2.out
          subst h2
          rw [okT_two, decide_eq_false (fun h => HC0.out h.2.1), Bool.false_and]
    · have hs' : s = ⟨#[]⟩ := (tl_nil.1 hs).trans be.symm
      subst hs'
      clear hs
      generalize hnq : ((l.length : Int) != arP o) = nq
      · refine wp_region_inv2 (by kernel_rfl) (NdCI W1 W.heap.size 0 0 0 o ⟨#[]⟩ A l.length c nq) (by kernel_rfl) ?_ ?_ ?_
        · refine ⟨undef, undef, undef, undef, undef, undef, undef, undef, undef, undef, undef, undef, undef, undef, undef, undef, undef, undef, ?_, ?_⟩
          · simp only [List.setIfInBounds_toArray, List.set_cons_succ, List.set_cons_zero]
          · constructor
            · exact bd (Below.refl _ _)
            all_goals (intro h; simp at h)
        · intro listed a' WW hsz hI i hi
          obtain ⟨hi0, oj, hoj, hall⟩ := mem_ready.1 hi
          have hlt2 : i < 18 := (Array.getElem?_eq_some_iff.1 hoj).1
          obtain ⟨x51, x52, x53, x54, x55, x56, x57, x58, x59, x60, x61, x62, x63, x64, x65, x66, x67, x68, rfl, hx⟩ := hI
          have hcs : i = 0 ∨ i = 1 ∨ i = 2 ∨ i = 3 ∨ i = 4 ∨ i = 5 ∨ i = 6 ∨ i = 7 ∨ i = 8 ∨ i = 9 ∨ i = 10 ∨ i = 11 ∨ i = 12 ∨ i = 13 ∨ i = 14 ∨ i = 15 ∨ i = 16 ∨ i = 17 := by omega
          clear hlt2
          rcases hcs with rfl | rfl | rfl | rfl | rfl | rfl | rfl | rfl | rfl | rfl | rfl | rfl | rfl | rfl | rfl | rfl | rfl | rfl
          · have hJ := hoj
            simp at hJ
            have HX : Hid _ := hx
            have HI0 : Hid _ := hi0
            clear hx hall hoj hJ hi hi0
            simp only [List.setIfInBounds_toArray, List.set_cons_succ, List.set_cons_zero]
            refine wpOp_step (o := _) rfl fun K' hK => ?_
            rw [if_pos (by kernel_rfl)]
            have HK9 : Hid _ := hK
            clear hK
            go_wp2_with fail
            exact HK9.out _ _ ⟨.pointer (some ⟨W.heap.size, 2, none⟩), x52, x53, x54, x55, x56, x57, x58, x59, x60, x61, x62, x63, x64, x65, x66, x67, x68, by simp only [Act.put, List.setIfInBounds_toArray, List.set_cons_succ, List.set_cons_zero], ⟨HX.out.bel, fun _ => rfl, fun h => HX.out.f1 (lset h (by decide)), fun h => HX.out.f2 (lset h (by decide)), fun h => HX.out.f3 (lset h (by decide)), fun h => HX.out.f4 (lset h (by decide)), fun h => HX.out.f5 (lset h (by decide)), fun h => HX.out.f6 (lset h (by decide)), fun h => HX.out.f7 (lset h (by decide)), fun h => HX.out.f8 (lset h (by decide)), fun h => HX.out.f9 (lset h (by decide)), fun h => HX.out.f10 (lset h (by decide)), fun h => HX.out.f11 (lset h (by decide)), fun h => HX.out.f12 (lset h (by decide)), fun h => HX.out.f13 (lset h (by decide)), fun h => HX.out.f14 (lset h (by decide)), fun h => HX.out.f15 (lset h (by decide)), fun h => HX.out.f16 (lset h (by decide)), fun h => HX.out.f17 (lset h (by decide))⟩⟩
          · have hJ := hoj
            simp at hJ
            have l0 : listed.getD 0 false = true := hall ⟨0, .data⟩ (by subst hJ; simp) rfl
            obtain rfl := hx.f0 l0
            have hz := bk hx.bel HK1.out
            have zc0 := blk_cell hz 0 rfl
            have zc1 := blk_cell hz 1 rfl
            have zc2 := blk_cell hz 2 rfl
            have zc3 := blk_cell hz 3 rfl
            have zc4 := blk_cell hz 4 rfl
            have zc5 := blk_cell hz 5 rfl
            have zc6 := blk_cell hz 6 rfl
            clear hz
            have HX : Hid _ := hx
            have HI0 : Hid _ := hi0
            clear hx hall hoj hJ hi hi0
            simp only [List.setIfInBounds_toArray, List.set_cons_succ, List.set_cons_zero]
            refine wpOp_step (o := _) rfl fun K' hK => ?_
            rw [if_pos (by kernel_rfl)]
            have HK9 : Hid _ := hK
            clear hK
            go_wp2_with fail
            exact HK9.out _ _ ⟨.pointer (some ⟨W.heap.size, 2, none⟩), .agg #[.int .i64 0, .int .i64 0, .string ⟨#[]⟩], x53, x54, x55, x56, x57, x58, x59, x60, x61, x62, x63, x64, x65, x66, x67, x68, by simp only [Act.put, List.setIfInBounds_toArray, List.set_cons_succ, List.set_cons_zero], ⟨HX.out.bel, fun h => HX.out.f0 (lset h (by decide)), fun _ => rfl, fun h => HX.out.f2 (lset h (by decide)), fun h => HX.out.f3 (lset h (by decide)), fun h => HX.out.f4 (lset h (by decide)), fun h => HX.out.f5 (lset h (by decide)), fun h => HX.out.f6 (lset h (by decide)), fun h => HX.out.f7 (lset h (by decide)), fun h => HX.out.f8 (lset h (by decide)), fun h => HX.out.f9 (lset h (by decide)), fun h => HX.out.f10 (lset h (by decide)), fun h => HX.out.f11 (lset h (by decide)), fun h => HX.out.f12 (lset h (by decide)), fun h => HX.out.f13 (lset h (by decide)), fun h => HX.out.f14 (lset h (by decide)), fun h => HX.out.f15 (lset h (by decide)), fun h => HX.out.f16 (lset h (by decide)), fun h => HX.out.f17 (lset h (by decide))⟩⟩
          · have hJ := hoj
            simp at hJ
            have HX : Hid _ := hx
            have HI0 : Hid _ := hi0
            clear hx hall hoj hJ hi hi0
            simp only [List.setIfInBounds_toArray, List.set_cons_succ, List.set_cons_zero]
            refine wpOp_step (o := _) rfl fun K' hK => ?_
            rw [if_pos (by kernel_rfl)]
            have HK9 : Hid _ := hK
            clear hK
            go_wp2_with fail
            exact HK9.out _ _ ⟨x51, x52, .agg #[.int .i64 0, .int .i64 0, .string ⟨#[]⟩], x54, x55, x56, x57, x58, x59, x60, x61, x62, x63, x64, x65, x66, x67, x68, by simp only [Act.put, List.setIfInBounds_toArray, List.set_cons_succ, List.set_cons_zero], ⟨HX.out.bel, fun h => HX.out.f0 (lset h (by decide)), fun h => HX.out.f1 (lset h (by decide)), fun _ => rfl, fun h => HX.out.f3 (lset h (by decide)), fun h => HX.out.f4 (lset h (by decide)), fun h => HX.out.f5 (lset h (by decide)), fun h => HX.out.f6 (lset h (by decide)), fun h => HX.out.f7 (lset h (by decide)), fun h => HX.out.f8 (lset h (by decide)), fun h => HX.out.f9 (lset h (by decide)), fun h => HX.out.f10 (lset h (by decide)), fun h => HX.out.f11 (lset h (by decide)), fun h => HX.out.f12 (lset h (by decide)), fun h => HX.out.f13 (lset h (by decide)), fun h => HX.out.f14 (lset h (by decide)), fun h => HX.out.f15 (lset h (by decide)), fun h => HX.out.f16 (lset h (by decide)), fun h => HX.out.f17 (lset h (by decide))⟩⟩
          · have hJ := hoj
            simp at hJ
            have l1 : listed.getD 1 false = true := hall ⟨1, .data⟩ (by subst hJ; simp) rfl
            have l2 : listed.getD 2 false = true := hall ⟨2, .data⟩ (by subst hJ; simp) rfl
            obtain rfl := hx.f1 l1
            obtain rfl := hx.f2 l2
            have HX : Hid _ := hx
            have HI0 : Hid _ := hi0
            clear hx hall hoj hJ hi hi0
            simp only [List.setIfInBounds_toArray, List.set_cons_succ, List.set_cons_zero]
            refine wpOp_step (o := _) rfl fun K' hK => ?_
            rw [if_pos (by kernel_rfl)]
            have HK9 : Hid _ := hK
            clear hK
            go_wp2_with fail
            exact HK9.out _ _ ⟨x51, .agg #[.int .i64 0, .int .i64 0, .string ⟨#[]⟩], .agg #[.int .i64 0, .int .i64 0, .string ⟨#[]⟩], .bool false, x55, x56, x57, x58, x59, x60, x61, x62, x63, x64, x65, x66, x67, x68, by simp only [Act.put, List.setIfInBounds_toArray, List.set_cons_succ, List.set_cons_zero], ⟨HX.out.bel, fun h => HX.out.f0 (lset h (by decide)), fun h => HX.out.f1 (lset h (by decide)), fun h => HX.out.f2 (lset h (by decide)), fun _ => rfl, fun h => HX.out.f4 (lset h (by decide)), fun h => HX.out.f5 (lset h (by decide)), fun h => HX.out.f6 (lset h (by decide)), fun h => HX.out.f7 (lset h (by decide)), fun h => HX.out.f8 (lset h (by decide)), fun h => HX.out.f9 (lset h (by decide)), fun h => HX.out.f10 (lset h (by decide)), fun h => HX.out.f11 (lset h (by decide)), fun h => HX.out.f12 (lset h (by decide)), fun h => HX.out.f13 (lset h (by decide)), fun h => HX.out.f14 (lset h (by decide)), fun h => HX.out.f15 (lset h (by decide)), fun h => HX.out.f16 (lset h (by decide)), fun h => HX.out.f17 (lset h (by decide))⟩⟩
          · have hJ := hoj
            simp at hJ
            have l3 : listed.getD 3 false = true := hall ⟨3, .data⟩ (by subst hJ; simp) rfl
            obtain rfl := hx.f3 l3
            have HX : Hid _ := hx
            have HI0 : Hid _ := hi0
            clear hx hall hoj hJ hi hi0
            simp only [List.setIfInBounds_toArray, List.set_cons_succ, List.set_cons_zero]
            refine wpOp_step (o := _) rfl fun K' hK => ?_
            rw [if_pos (by kernel_rfl)]
            have HK9 : Hid _ := hK
            clear hK
            go_wp2_with fail
            exact HK9.out _ _ ⟨x51, x52, x53, .bool false, .bool false, x56, x57, x58, x59, x60, x61, x62, x63, x64, x65, x66, x67, x68, by simp only [Act.put, List.setIfInBounds_toArray, List.set_cons_succ, List.set_cons_zero], ⟨HX.out.bel, fun h => HX.out.f0 (lset h (by decide)), fun h => HX.out.f1 (lset h (by decide)), fun h => HX.out.f2 (lset h (by decide)), fun h => HX.out.f3 (lset h (by decide)), fun _ => rfl, fun h => HX.out.f5 (lset h (by decide)), fun h => HX.out.f6 (lset h (by decide)), fun h => HX.out.f7 (lset h (by decide)), fun h => HX.out.f8 (lset h (by decide)), fun h => HX.out.f9 (lset h (by decide)), fun h => HX.out.f10 (lset h (by decide)), fun h => HX.out.f11 (lset h (by decide)), fun h => HX.out.f12 (lset h (by decide)), fun h => HX.out.f13 (lset h (by decide)), fun h => HX.out.f14 (lset h (by decide)), fun h => HX.out.f15 (lset h (by decide)), fun h => HX.out.f16 (lset h (by decide)), fun h => HX.out.f17 (lset h (by decide))⟩⟩
          · have hJ := hoj
            simp at hJ
            have l4 : listed.getD 4 false = true := hall ⟨4, .guard⟩ (by subst hJ; simp) rfl
            obtain rfl := hx.f4 l4
            have HX : Hid _ := hx
            have HI0 : Hid _ := hi0
            clear hx hall hoj hJ hi hi0
            simp only [List.setIfInBounds_toArray, List.set_cons_succ, List.set_cons_zero]
            refine wpOp_step (o := _) rfl fun K' hK => ?_
            rw [if_pos (by kernel_rfl)]
            have HK9 : Hid _ := hK
            clear hK
            go_wp2_with fail
            exact HK9.out _ _ ⟨x51, x52, x53, x54, .bool false, .pointer (some ⟨W.heap.size, 1, none⟩), x57, x58, x59, x60, x61, x62, x63, x64, x65, x66, x67, x68, by simp only [Act.put, List.setIfInBounds_toArray, List.set_cons_succ, List.set_cons_zero], ⟨HX.out.bel, fun h => HX.out.f0 (lset h (by decide)), fun h => HX.out.f1 (lset h (by decide)), fun h => HX.out.f2 (lset h (by decide)), fun h => HX.out.f3 (lset h (by decide)), fun h => HX.out.f4 (lset h (by decide)), fun _ => rfl, fun h => HX.out.f6 (lset h (by decide)), fun h => HX.out.f7 (lset h (by decide)), fun h => HX.out.f8 (lset h (by decide)), fun h => HX.out.f9 (lset h (by decide)), fun h => HX.out.f10 (lset h (by decide)), fun h => HX.out.f11 (lset h (by decide)), fun h => HX.out.f12 (lset h (by decide)), fun h => HX.out.f13 (lset h (by decide)), fun h => HX.out.f14 (lset h (by decide)), fun h => HX.out.f15 (lset h (by decide)), fun h => HX.out.f16 (lset h (by decide)), fun h => HX.out.f17 (lset h (by decide))⟩⟩
          · have hJ := hoj
            simp at hJ
            have l5 : listed.getD 5 false = true := hall ⟨5, .data⟩ (by subst hJ; simp) rfl
            have l4 : listed.getD 4 false = true := hall ⟨4, .guard⟩ (by subst hJ; simp) rfl
            obtain rfl := hx.f5 l5
            obtain rfl := hx.f4 l4
            have hz := bk hx.bel HK1.out
            have zc0 := blk_cell hz 0 rfl
            have zc1 := blk_cell hz 1 rfl
            have zc2 := blk_cell hz 2 rfl
            have zc3 := blk_cell hz 3 rfl
            have zc4 := blk_cell hz 4 rfl
            have zc5 := blk_cell hz 5 rfl
            have zc6 := blk_cell hz 6 rfl
            clear hz
            have HX : Hid _ := hx
            have HI0 : Hid _ := hi0
            clear hx hall hoj hJ hi hi0
            simp only [List.setIfInBounds_toArray, List.set_cons_succ, List.set_cons_zero]
            refine wpOp_step (o := _) rfl fun K' hK => ?_
            rw [if_pos (by kernel_rfl)]
            have HK9 : Hid _ := hK
            clear hK
            go_wp2_with fail
            exact HK9.out _ _ ⟨x51, x52, x53, x54, .bool false, .pointer (some ⟨W.heap.size, 1, none⟩), .int .i64 0, x58, x59, x60, x61, x62, x63, x64, x65, x66, x67, x68, by simp only [Act.put, List.setIfInBounds_toArray, List.set_cons_succ, List.set_cons_zero], ⟨HX.out.bel, fun h => HX.out.f0 (lset h (by decide)), fun h => HX.out.f1 (lset h (by decide)), fun h => HX.out.f2 (lset h (by decide)), fun h => HX.out.f3 (lset h (by decide)), fun h => HX.out.f4 (lset h (by decide)), fun h => HX.out.f5 (lset h (by decide)), fun _ => rfl, fun h => HX.out.f7 (lset h (by decide)), fun h => HX.out.f8 (lset h (by decide)), fun h => HX.out.f9 (lset h (by decide)), fun h => HX.out.f10 (lset h (by decide)), fun h => HX.out.f11 (lset h (by decide)), fun h => HX.out.f12 (lset h (by decide)), fun h => HX.out.f13 (lset h (by decide)), fun h => HX.out.f14 (lset h (by decide)), fun h => HX.out.f15 (lset h (by decide)), fun h => HX.out.f16 (lset h (by decide)), fun h => HX.out.f17 (lset h (by decide))⟩⟩
          · have hJ := hoj
            simp at hJ
            have l6 : listed.getD 6 false = true := hall ⟨6, .data⟩ (by subst hJ; simp) rfl
            have l4 : listed.getD 4 false = true := hall ⟨4, .guard⟩ (by subst hJ; simp) rfl
            obtain rfl := hx.f6 l6
            obtain rfl := hx.f4 l4
            have HX : Hid _ := hx
            have HI0 : Hid _ := hi0
            clear hx hall hoj hJ hi hi0
            simp only [List.setIfInBounds_toArray, List.set_cons_succ, List.set_cons_zero]
            refine wpOp_step (o := _) rfl fun K' hK => ?_
            rw [if_pos (by kernel_rfl)]
            have HK9 : Hid _ := hK
            clear hK
            go_wp2_with fail
            exact HK9.out _ _ ⟨x51, x52, x53, x54, .bool false, x56, .int .i64 0, .bool false, x59, x60, x61, x62, x63, x64, x65, x66, x67, x68, by simp only [Act.put, List.setIfInBounds_toArray, List.set_cons_succ, List.set_cons_zero], ⟨HX.out.bel, fun h => HX.out.f0 (lset h (by decide)), fun h => HX.out.f1 (lset h (by decide)), fun h => HX.out.f2 (lset h (by decide)), fun h => HX.out.f3 (lset h (by decide)), fun h => HX.out.f4 (lset h (by decide)), fun h => HX.out.f5 (lset h (by decide)), fun h => HX.out.f6 (lset h (by decide)), fun _ => rfl, fun h => HX.out.f8 (lset h (by decide)), fun h => HX.out.f9 (lset h (by decide)), fun h => HX.out.f10 (lset h (by decide)), fun h => HX.out.f11 (lset h (by decide)), fun h => HX.out.f12 (lset h (by decide)), fun h => HX.out.f13 (lset h (by decide)), fun h => HX.out.f14 (lset h (by decide)), fun h => HX.out.f15 (lset h (by decide)), fun h => HX.out.f16 (lset h (by decide)), fun h => HX.out.f17 (lset h (by decide))⟩⟩
          · have hJ := hoj
            simp at hJ
            have l4 : listed.getD 4 false = true := hall ⟨4, .data⟩ (by subst hJ; simp) rfl
            have l7 : listed.getD 7 false = true := hall ⟨7, .data⟩ (by subst hJ; simp) rfl
            obtain rfl := hx.f4 l4
            obtain rfl := hx.f7 l7
            have HX : Hid _ := hx
            have HI0 : Hid _ := hi0
            clear hx hall hoj hJ hi hi0
            simp only [List.setIfInBounds_toArray, List.set_cons_succ, List.set_cons_zero]
            refine wpOp_step (o := _) rfl fun K' hK => ?_
            rw [if_pos (by kernel_rfl)]
            have HK9 : Hid _ := hK
            clear hK
            go_wp2_with fail
            exact HK9.out _ _ ⟨x51, x52, x53, x54, .bool false, x56, x57, .bool false, .bool false, x60, x61, x62, x63, x64, x65, x66, x67, x68, by simp only [Act.put, List.setIfInBounds_toArray, List.set_cons_succ, List.set_cons_zero], ⟨HX.out.bel, fun h => HX.out.f0 (lset h (by decide)), fun h => HX.out.f1 (lset h (by decide)), fun h => HX.out.f2 (lset h (by decide)), fun h => HX.out.f3 (lset h (by decide)), fun h => HX.out.f4 (lset h (by decide)), fun h => HX.out.f5 (lset h (by decide)), fun h => HX.out.f6 (lset h (by decide)), fun h => HX.out.f7 (lset h (by decide)), fun _ => rfl, fun h => HX.out.f9 (lset h (by decide)), fun h => HX.out.f10 (lset h (by decide)), fun h => HX.out.f11 (lset h (by decide)), fun h => HX.out.f12 (lset h (by decide)), fun h => HX.out.f13 (lset h (by decide)), fun h => HX.out.f14 (lset h (by decide)), fun h => HX.out.f15 (lset h (by decide)), fun h => HX.out.f16 (lset h (by decide)), fun h => HX.out.f17 (lset h (by decide))⟩⟩
          · have hJ := hoj
            simp at hJ
            have l8 : listed.getD 8 false = true := hall ⟨8, .data⟩ (by subst hJ; simp) rfl
            obtain rfl := hx.f8 l8
            have HX : Hid _ := hx
            have HI0 : Hid _ := hi0
            clear hx hall hoj hJ hi hi0
            simp only [List.setIfInBounds_toArray, List.set_cons_succ, List.set_cons_zero]
            refine wpOp_step (o := _) rfl fun K' hK => ?_
            rw [if_pos (by kernel_rfl)]
            have HK9 : Hid _ := hK
            clear hK
            go_wp2_with fail
            exact HK9.out _ _ ⟨x51, x52, x53, x54, x55, x56, x57, x58, .bool false, .bool false, x61, x62, x63, x64, x65, x66, x67, x68, by simp only [Act.put, List.setIfInBounds_toArray, List.set_cons_succ, List.set_cons_zero], ⟨HX.out.bel, fun h => HX.out.f0 (lset h (by decide)), fun h => HX.out.f1 (lset h (by decide)), fun h => HX.out.f2 (lset h (by decide)), fun h => HX.out.f3 (lset h (by decide)), fun h => HX.out.f4 (lset h (by decide)), fun h => HX.out.f5 (lset h (by decide)), fun h => HX.out.f6 (lset h (by decide)), fun h => HX.out.f7 (lset h (by decide)), fun h => HX.out.f8 (lset h (by decide)), fun _ => rfl, fun h => HX.out.f10 (lset h (by decide)), fun h => HX.out.f11 (lset h (by decide)), fun h => HX.out.f12 (lset h (by decide)), fun h => HX.out.f13 (lset h (by decide)), fun h => HX.out.f14 (lset h (by decide)), fun h => HX.out.f15 (lset h (by decide)), fun h => HX.out.f16 (lset h (by decide)), fun h => HX.out.f17 (lset h (by decide))⟩⟩
          · have hJ := hoj
            simp at hJ
            have l9 : listed.getD 9 false = true := hall ⟨9, .guard⟩ (by subst hJ; simp) rfl
            obtain rfl := hx.f9 l9
            have HX : Hid _ := hx
            have HI0 : Hid _ := hi0
            clear hx hall hoj hJ hi hi0
            simp only [List.setIfInBounds_toArray, List.set_cons_succ, List.set_cons_zero]
            refine wpOp_step (o := _) rfl fun K' hK => ?_
            rw [if_pos (by kernel_rfl)]
            have HK9 : Hid _ := hK
            clear hK
            go_wp2_with fail
            exact HK9.out _ _ ⟨x51, x52, x53, x54, x55, x56, x57, x58, x59, .bool false, .pointer (some ⟨W.heap.size, 6, none⟩), x62, x63, x64, x65, x66, x67, x68, by simp only [Act.put, List.setIfInBounds_toArray, List.set_cons_succ, List.set_cons_zero], ⟨HX.out.bel, fun h => HX.out.f0 (lset h (by decide)), fun h => HX.out.f1 (lset h (by decide)), fun h => HX.out.f2 (lset h (by decide)), fun h => HX.out.f3 (lset h (by decide)), fun h => HX.out.f4 (lset h (by decide)), fun h => HX.out.f5 (lset h (by decide)), fun h => HX.out.f6 (lset h (by decide)), fun h => HX.out.f7 (lset h (by decide)), fun h => HX.out.f8 (lset h (by decide)), fun h => HX.out.f9 (lset h (by decide)), fun _ => rfl, fun h => HX.out.f11 (lset h (by decide)), fun h => HX.out.f12 (lset h (by decide)), fun h => HX.out.f13 (lset h (by decide)), fun h => HX.out.f14 (lset h (by decide)), fun h => HX.out.f15 (lset h (by decide)), fun h => HX.out.f16 (lset h (by decide)), fun h => HX.out.f17 (lset h (by decide))⟩⟩
          · have hJ := hoj
            simp at hJ
            have l10 : listed.getD 10 false = true := hall ⟨10, .data⟩ (by subst hJ; simp) rfl
            have l9 : listed.getD 9 false = true := hall ⟨9, .guard⟩ (by subst hJ; simp) rfl
            obtain rfl := hx.f10 l10
            obtain rfl := hx.f9 l9
            have hz := bk hx.bel HK1.out
            have zc0 := blk_cell hz 0 rfl
            have zc1 := blk_cell hz 1 rfl
            have zc2 := blk_cell hz 2 rfl
            have zc3 := blk_cell hz 3 rfl
            have zc4 := blk_cell hz 4 rfl
            have zc5 := blk_cell hz 5 rfl
            have zc6 := blk_cell hz 6 rfl
            clear hz
            have HX : Hid _ := hx
            have HI0 : Hid _ := hi0
            clear hx hall hoj hJ hi hi0
            simp only [List.setIfInBounds_toArray, List.set_cons_succ, List.set_cons_zero]
            refine wpOp_step (o := _) rfl fun K' hK => ?_
            rw [if_pos (by kernel_rfl)]
            have HK9 : Hid _ := hK
            clear hK
            go_wp2_with fail
            exact HK9.out _ _ ⟨x51, x52, x53, x54, x55, x56, x57, x58, x59, .bool false, .pointer (some ⟨W.heap.size, 6, none⟩), .slice A l.length c, x63, x64, x65, x66, x67, x68, by simp only [Act.put, List.setIfInBounds_toArray, List.set_cons_succ, List.set_cons_zero], ⟨HX.out.bel, fun h => HX.out.f0 (lset h (by decide)), fun h => HX.out.f1 (lset h (by decide)), fun h => HX.out.f2 (lset h (by decide)), fun h => HX.out.f3 (lset h (by decide)), fun h => HX.out.f4 (lset h (by decide)), fun h => HX.out.f5 (lset h (by decide)), fun h => HX.out.f6 (lset h (by decide)), fun h => HX.out.f7 (lset h (by decide)), fun h => HX.out.f8 (lset h (by decide)), fun h => HX.out.f9 (lset h (by decide)), fun h => HX.out.f10 (lset h (by decide)), fun _ => rfl, fun h => HX.out.f12 (lset h (by decide)), fun h => HX.out.f13 (lset h (by decide)), fun h => HX.out.f14 (lset h (by decide)), fun h => HX.out.f15 (lset h (by decide)), fun h => HX.out.f16 (lset h (by decide)), fun h => HX.out.f17 (lset h (by decide))⟩⟩
          · have hJ := hoj
            simp at hJ
            have l11 : listed.getD 11 false = true := hall ⟨11, .data⟩ (by subst hJ; simp) rfl
            have l9 : listed.getD 9 false = true := hall ⟨9, .guard⟩ (by subst hJ; simp) rfl
            obtain rfl := hx.f11 l11
            obtain rfl := hx.f9 l9
            have HX : Hid _ := hx
            have HI0 : Hid _ := hi0
            clear hx hall hoj hJ hi hi0
            simp only [List.setIfInBounds_toArray, List.set_cons_succ, List.set_cons_zero]
            refine wpOp_step (o := _) rfl fun K' hK => ?_
            rw [if_pos (by kernel_rfl)]
            have HK9 : Hid _ := hK
            clear hK
            go_wp2_with fail
            exact HK9.out _ _ ⟨x51, x52, x53, x54, x55, x56, x57, x58, x59, .bool false, x61, .slice A l.length c, .int .i64 (l.length : Int), x64, x65, x66, x67, x68, by simp only [Act.put, List.setIfInBounds_toArray, List.set_cons_succ, List.set_cons_zero], ⟨HX.out.bel, fun h => HX.out.f0 (lset h (by decide)), fun h => HX.out.f1 (lset h (by decide)), fun h => HX.out.f2 (lset h (by decide)), fun h => HX.out.f3 (lset h (by decide)), fun h => HX.out.f4 (lset h (by decide)), fun h => HX.out.f5 (lset h (by decide)), fun h => HX.out.f6 (lset h (by decide)), fun h => HX.out.f7 (lset h (by decide)), fun h => HX.out.f8 (lset h (by decide)), fun h => HX.out.f9 (lset h (by decide)), fun h => HX.out.f10 (lset h (by decide)), fun h => HX.out.f11 (lset h (by decide)), fun _ => rfl, fun h => HX.out.f13 (lset h (by decide)), fun h => HX.out.f14 (lset h (by decide)), fun h => HX.out.f15 (lset h (by decide)), fun h => HX.out.f16 (lset h (by decide)), fun h => HX.out.f17 (lset h (by decide))⟩⟩
          · have hJ := hoj
            simp at hJ
            have l9 : listed.getD 9 false = true := hall ⟨9, .guard⟩ (by subst hJ; simp) rfl
            obtain rfl := hx.f9 l9
            have HX : Hid _ := hx
            have HI0 : Hid _ := hi0
            clear hx hall hoj hJ hi hi0
            simp only [List.setIfInBounds_toArray, List.set_cons_succ, List.set_cons_zero]
            refine wpOp_step (o := _) rfl fun K' hK => ?_
            rw [if_pos (by kernel_rfl)]
            have HK9 : Hid _ := hK
            clear hK
            go_wp2_with fail
            exact HK9.out _ _ ⟨x51, x52, x53, x54, x55, x56, x57, x58, x59, .bool false, x61, x62, x63, .pointer (some ⟨W.heap.size, 5, none⟩), x65, x66, x67, x68, by simp only [Act.put, List.setIfInBounds_toArray, List.set_cons_succ, List.set_cons_zero], ⟨HX.out.bel, fun h => HX.out.f0 (lset h (by decide)), fun h => HX.out.f1 (lset h (by decide)), fun h => HX.out.f2 (lset h (by decide)), fun h => HX.out.f3 (lset h (by decide)), fun h => HX.out.f4 (lset h (by decide)), fun h => HX.out.f5 (lset h (by decide)), fun h => HX.out.f6 (lset h (by decide)), fun h => HX.out.f7 (lset h (by decide)), fun h => HX.out.f8 (lset h (by decide)), fun h => HX.out.f9 (lset h (by decide)), fun h => HX.out.f10 (lset h (by decide)), fun h => HX.out.f11 (lset h (by decide)), fun h => HX.out.f12 (lset h (by decide)), fun _ => rfl, fun h => HX.out.f14 (lset h (by decide)), fun h => HX.out.f15 (lset h (by decide)), fun h => HX.out.f16 (lset h (by decide)), fun h => HX.out.f17 (lset h (by decide))⟩⟩
          · have hJ := hoj
            simp at hJ
            have l13 : listed.getD 13 false = true := hall ⟨13, .data⟩ (by subst hJ; simp) rfl
            have l9 : listed.getD 9 false = true := hall ⟨9, .guard⟩ (by subst hJ; simp) rfl
            obtain rfl := hx.f13 l13
            obtain rfl := hx.f9 l9
            have hz := bk hx.bel HK1.out
            have zc0 := blk_cell hz 0 rfl
            have zc1 := blk_cell hz 1 rfl
            have zc2 := blk_cell hz 2 rfl
            have zc3 := blk_cell hz 3 rfl
            have zc4 := blk_cell hz 4 rfl
            have zc5 := blk_cell hz 5 rfl
            have zc6 := blk_cell hz 6 rfl
            clear hz
            have HX : Hid _ := hx
            have HI0 : Hid _ := hi0
            clear hx hall hoj hJ hi hi0
            simp only [List.setIfInBounds_toArray, List.set_cons_succ, List.set_cons_zero]
            refine wpOp_step (o := _) rfl fun K' hK => ?_
            rw [if_pos (by kernel_rfl)]
            have HK9 : Hid _ := hK
            clear hK
            go_wp2_with fail
            exact HK9.out _ _ ⟨x51, x52, x53, x54, x55, x56, x57, x58, x59, .bool false, x61, x62, x63, .pointer (some ⟨W.heap.size, 5, none⟩), .int .i64 o, x66, x67, x68, by simp only [Act.put, List.setIfInBounds_toArray, List.set_cons_succ, List.set_cons_zero], ⟨HX.out.bel, fun h => HX.out.f0 (lset h (by decide)), fun h => HX.out.f1 (lset h (by decide)), fun h => HX.out.f2 (lset h (by decide)), fun h => HX.out.f3 (lset h (by decide)), fun h => HX.out.f4 (lset h (by decide)), fun h => HX.out.f5 (lset h (by decide)), fun h => HX.out.f6 (lset h (by decide)), fun h => HX.out.f7 (lset h (by decide)), fun h => HX.out.f8 (lset h (by decide)), fun h => HX.out.f9 (lset h (by decide)), fun h => HX.out.f10 (lset h (by decide)), fun h => HX.out.f11 (lset h (by decide)), fun h => HX.out.f12 (lset h (by decide)), fun h => HX.out.f13 (lset h (by decide)), fun _ => rfl, fun h => HX.out.f15 (lset h (by decide)), fun h => HX.out.f16 (lset h (by decide)), fun h => HX.out.f17 (lset h (by decide))⟩⟩
          · have hJ := hoj
            simp at hJ
            have l14 : listed.getD 14 false = true := hall ⟨14, .data⟩ (by subst hJ; simp) rfl
            have l9 : listed.getD 9 false = true := hall ⟨9, .chain⟩ (by subst hJ; simp) rfl
            obtain rfl := hx.f14 l14
            obtain rfl := hx.f9 l9
            have HX : Hid _ := hx
            have HI0 : Hid _ := hi0
            clear hx hall hoj hJ hi hi0
            simp only [List.setIfInBounds_toArray, List.set_cons_succ, List.set_cons_zero]
            refine wpOp_step (o := _) rfl fun K' hK => ?_
            rw [if_pos (by kernel_rfl)]
            have HK9 : Hid _ := hK
            clear hK
            go_wp2_with fail
            refine (Arity_c _ _).mono ?_
            rintro e w1 ⟨rfl, rfl⟩
            go_wp2_with fail
            exact HK9.out _ _ ⟨x51, x52, x53, x54, x55, x56, x57, x58, x59, .bool false, x61, x62, x63, x64, .int .i64 o, .int .i64 (arP o), x67, x68, by simp only [Act.put, List.setIfInBounds_toArray, List.set_cons_succ, List.set_cons_zero], ⟨HX.out.bel, fun h => HX.out.f0 (lset h (by decide)), fun h => HX.out.f1 (lset h (by decide)), fun h => HX.out.f2 (lset h (by decide)), fun h => HX.out.f3 (lset h (by decide)), fun h => HX.out.f4 (lset h (by decide)), fun h => HX.out.f5 (lset h (by decide)), fun h => HX.out.f6 (lset h (by decide)), fun h => HX.out.f7 (lset h (by decide)), fun h => HX.out.f8 (lset h (by decide)), fun h => HX.out.f9 (lset h (by decide)), fun h => HX.out.f10 (lset h (by decide)), fun h => HX.out.f11 (lset h (by decide)), fun h => HX.out.f12 (lset h (by decide)), fun h => HX.out.f13 (lset h (by decide)), fun h => HX.out.f14 (lset h (by decide)), fun _ => rfl, fun h => HX.out.f16 (lset h (by decide)), fun h => HX.out.f17 (lset h (by decide))⟩⟩
          · have hJ := hoj
            simp at hJ
            have l12 : listed.getD 12 false = true := hall ⟨12, .data⟩ (by subst hJ; simp) rfl
            have l15 : listed.getD 15 false = true := hall ⟨15, .data⟩ (by subst hJ; simp) rfl
            have l9 : listed.getD 9 false = true := hall ⟨9, .guard⟩ (by subst hJ; simp) rfl
            obtain rfl := hx.f12 l12
            obtain rfl := hx.f15 l15
            obtain rfl := hx.f9 l9
            have HX : Hid _ := hx
            have HI0 : Hid _ := hi0
            clear hx hall hoj hJ hi hi0
            simp only [List.setIfInBounds_toArray, List.set_cons_succ, List.set_cons_zero]
            refine wpOp_step (o := _) rfl fun K' hK => ?_
            rw [if_pos (by kernel_rfl)]
            have HK9 : Hid _ := hK
            clear hK
            go_wp2_with fail
            exact HK9.out _ _ ⟨x51, x52, x53, x54, x55, x56, x57, x58, x59, .bool false, x61, x62, .int .i64 (l.length : Int), x64, x65, .int .i64 (arP o), .bool nq, x68, by simp only [Act.put, List.setIfInBounds_toArray, List.set_cons_succ, List.set_cons_zero], ⟨HX.out.bel, fun h => HX.out.f0 (lset h (by decide)), fun h => HX.out.f1 (lset h (by decide)), fun h => HX.out.f2 (lset h (by decide)), fun h => HX.out.f3 (lset h (by decide)), fun h => HX.out.f4 (lset h (by decide)), fun h => HX.out.f5 (lset h (by decide)), fun h => HX.out.f6 (lset h (by decide)), fun h => HX.out.f7 (lset h (by decide)), fun h => HX.out.f8 (lset h (by decide)), fun h => HX.out.f9 (lset h (by decide)), fun h => HX.out.f10 (lset h (by decide)), fun h => HX.out.f11 (lset h (by decide)), fun h => HX.out.f12 (lset h (by decide)), fun h => HX.out.f13 (lset h (by decide)), fun h => HX.out.f14 (lset h (by decide)), fun h => HX.out.f15 (lset h (by decide)), fun _ => rfl, fun h => HX.out.f17 (lset h (by decide))⟩⟩
          · have hJ := hoj
            simp at hJ
            have l9 : listed.getD 9 false = true := hall ⟨9, .data⟩ (by subst hJ; simp) rfl
            have l16 : listed.getD 16 false = true := hall ⟨16, .data⟩ (by subst hJ; simp) rfl
            obtain rfl := hx.f9 l9
            obtain rfl := hx.f16 l16
            have HX : Hid _ := hx
            have HI0 : Hid _ := hi0
            clear hx hall hoj hJ hi hi0
            simp only [List.setIfInBounds_toArray, List.set_cons_succ, List.set_cons_zero]
            refine wpOp_step (o := _) rfl fun K' hK => ?_
            rw [if_pos (by kernel_rfl)]
            have HK9 : Hid _ := hK
            clear hK
            go_wp2_with fail
            exact HK9.out _ _ ⟨x51, x52, x53, x54, x55, x56, x57, x58, x59, .bool false, x61, x62, x63, x64, x65, x66, .bool nq, .bool nq, by simp only [Act.put, List.setIfInBounds_toArray, List.set_cons_succ, List.set_cons_zero], ⟨HX.out.bel, fun h => HX.out.f0 (lset h (by decide)), fun h => HX.out.f1 (lset h (by decide)), fun h => HX.out.f2 (lset h (by decide)), fun h => HX.out.f3 (lset h (by decide)), fun h => HX.out.f4 (lset h (by decide)), fun h => HX.out.f5 (lset h (by decide)), fun h => HX.out.f6 (lset h (by decide)), fun h => HX.out.f7 (lset h (by decide)), fun h => HX.out.f8 (lset h (by decide)), fun h => HX.out.f9 (lset h (by decide)), fun h => HX.out.f10 (lset h (by decide)), fun h => HX.out.f11 (lset h (by decide)), fun h => HX.out.f12 (lset h (by decide)), fun h => HX.out.f13 (lset h (by decide)), fun h => HX.out.f14 (lset h (by decide)), fun h => HX.out.f15 (lset h (by decide)), fun h => HX.out.f16 (lset h (by decide)), fun _ => rfl⟩⟩
        · rintro a' WW ⟨x51, x52, x53, x54, x55, x56, x57, x58, x59, x60, x61, x62, x63, x64, x65, x66, x67, x68, rfl, hx⟩
          have hlast := hx.f17 (by simp)
          have HB9 : Hid _ := hx.bel
          clear hx
          subst hlast
          simp only [List.setIfInBounds_toArray, List.set_cons_succ, List.set_cons_zero]
          have HNQ : Hid _ := hnq
          have HKW : Hid _ := bk HB9.out HK1.out
          have HBW : Hid _ := bt HBB.out HB9.out
          clear hnq
          cases nq with
          | true =>
            go_wp2_with fail
            go_ret
            refine ⟨ret_bool ?_, HBW.out⟩
            have h2 := H2.out
            subst h2
            rw [okT_two, decide_eq_false (fun h => by have := HNQ.out; simp [h.1] at this), Bool.false_and]
          | false =>
            go_wp2_with fail
            go_loopg [3] l.length (fun gg s3 wr => ∃ kk : Nat, kk ≤ l.length ∧ l.length - kk ≤ gg ∧ s3 = .int .i64 kk ∧ Hid ((l.take kk).all okT = true) ∧ Hid (Below W.heap.size W wr) ∧
              Hid (wr.heap[W.heap.size]? = some (Obj.cells #[.int .i64 k, .int .i64 0, .int .i64 0, .int .i64 0, .string ⟨#[]⟩, .int .i64 o, .slice A l.length c] 26 (0, 0))))
            case atStart => exact ⟨0, Nat.zero_le _, by omega, rfl, by simp [Hid], HBW.out, HKW.out⟩
            case round =>
              obtain ⟨kk, hkk, hg, rfl, HA, HB, HK⟩ := hrel
              have hz := HK.out
              have zc0 := blk_cell hz 0 rfl
              have zc1 := blk_cell hz 1 rfl
              have zc2 := blk_cell hz 2 rfl
              have zc3 := blk_cell hz 3 rfl
              have zc4 := blk_cell hz 4 rfl
              have zc5 := blk_cell hz 5 rfl
              have zc6 := blk_cell hz 6 rfl
              clear hz
              by_cases hlt : kk < l.length
              · have hx := List.getElem?_eq_getElem hlt
                obtain ⟨b, o', A', c', rfl, hbS, hc', hr', e0, e1, e2, e3, e4, e5, e6⟩ := (hr.below HB.out).get hx
                have hih := IH.out l[kk] (List.getElem_mem _)
                have HX : Hid (l[kk]? = some l[kk]) := hx
                clear hx
                generalize l[kk] = x at *
                have HI : Hid (∀ (W : World) (A : Option Addr) (c : Nat), x.f4.length ≤ c → ScRow (· < W.heap.size) W A x.f4 →
                  Calls Tryz.prog 55 #[scV x A c] W fun e W' => e = .returned (.bool (okT x)) ∧ Below W.heap.size W W') := hih
                clear hih
                go_wp2_with fail
                refine (HI.out _ A' c' hc' (ScRow.lowE hr' (Below.refl _ _) (by have := HB.out.size; omega))).mono ?_
                rintro e w2 ⟨rfl, hb⟩
                have HB1 : Hid _ := hb
                clear hb
                cases hf : okT x with
                | true =>
                  have HF : Hid _ := hf
                  clear hf
                  go_wp2_with fail
                  go_roundg (l.length - (kk + 1))
                  case measure => omega
                  case rel => exact ⟨kk + 1, by omega, by omega, by go_num, all_take HX.out HA.out HF.out, bt HB.out HB1.out, bk HB1.out HK.out⟩
                | false =>
                  have HF : Hid _ := hf
                  clear hf
                  go_wp2_with fail
                  go_ret
                  refine ⟨ret_bool ?_, bt HB.out HB1.out⟩
                  have h2 := H2.out
                  subst h2
                  rw [okT_two, all_not HX.out HF.out, Bool.and_false]
              · have : kk = l.length := by omega
                subst this
                clear hlt hg
                go_wp2_with fail
                go_ret
                refine ⟨ret_bool ?_, HB.out⟩
                have h := HA.out
                rw [List.take_length] at h
                have h2 := H2.out
                subst h2
                rw [okT_two, h, Bool.and_true, eq_comm, decide_eq_true_iff]
                exact ⟨by have := HNQ.out; simpa using this, rfl, rfl⟩
  · have h2' : (k == 2) = false := by simp [h2]
    have HN : Hid (k ≠ 0 ∧ k ≠ 1 ∧ k ≠ 2) := ⟨h0, h1, h2⟩
    clear h0 h1 h2
    go_enter Tryz.func55, Tryz.ntmps55
    go_wp2_with fail
    go_ret
    exact ⟨ret_bool (by rw [okT, Pu.node, if_neg HN.out.1, if_neg HN.out.2.1, if_neg HN.out.2.2, Bool.false_and]), ba (Below.refl _ _) _⟩
set_option maxHeartbeats 1000000 in
theorem rValid_c (x : Sc) (A : Option Addr) (c : Nat) (w : World) (hc : x.f4.length ≤ c) (hr : ScRow (· < w.heap.size) w A x.f4) :
    Calls Tryz.prog 17 #[scV x A c] w fun e w' => e = .returned (.bool (valid x)) ∧ Below w.heap.size w w' := by
  have hlx := hr.1
  have HCN : Hid _ := count_c x
  have HND : Hid (∀ (W : World) (A : Option Addr) (c : Nat), x.f4.length ≤ c → ScRow (· < W.heap.size) W A x.f4 →
    Calls Tryz.prog 55 #[scV x A c] W fun e W' => e = .returned (.bool (okT x)) ∧ Below W.heap.size W W') := rnode_c x
  go_enter Tryz.func17, Tryz.ntmps17
  go_wp2_with fail
  refine (HCN.out 256 _ A c (by decide) hc (ScRow.lowE hr ((Below.refl _ _).alloc (Nat.le_refl _) _) (by simp))).mono ?_
  rintro e w1 ⟨rfl, hb⟩
  have HB : Hid (Below w.heap.size w w1) := bt (ba (Below.refl _ _) _) hb
  have hz := bk hb (n := w.heap.size) (alloc_at rfl)
  have zc0 := blk_cell hz 0 rfl
  have zc1 := blk_cell hz 1 rfl
  have zc2 := blk_cell hz 2 rfl
  have zc3 := blk_cell hz 3 rfl
  have zc4 := blk_cell hz 4 rfl
  have zc5 := blk_cell hz 5 rfl
  have zc6 := blk_cell hz 6 rfl
  clear hb hz
  by_cases hs : size x ≤ 256
  · have hmin : ((min (size x) (256 + 1) : Nat) : Int) ≤ 256 := by omega
    have HS : Hid _ := hs
    clear hs
    generalize ((min (size x) (256 + 1) : Nat) : Int) = y at *
    go_wp2_with fail
    refine (HND.out _ A c hc (ScRow.lowE hr HB.out HB.out.size)).mono ?_
    rintro e w2 ⟨rfl, hb⟩
    have HB1 : Hid _ := hb
    clear hb
    go_wp2_with fail
    all_goals go_ret
    all_goals refine ⟨ret_bool ?_, bt HB.out HB1.out⟩
    all_goals (rw [valid, decide_eq_true HS.out, Bool.true_and])
  · have hmin : ¬ ((min (size x) (256 + 1) : Nat) : Int) ≤ 256 := by omega
    have HS : Hid _ := hs
    clear hs
    generalize ((min (size x) (256 + 1) : Nat) : Int) = y at *
    go_wp2_with fail
    go_ret
    exact ⟨ret_bool (by rw [valid, decide_eq_false HS.out, Bool.false_and]), HB.out⟩
end Go.Proofs.YtemedepjmnncbaaGreatDoor
