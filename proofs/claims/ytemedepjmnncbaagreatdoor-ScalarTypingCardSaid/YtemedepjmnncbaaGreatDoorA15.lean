import Derived.Test.YtemedepjmnncbaaGreatDoorShelf
import Derived.Test.YtemedepjmnncbaaGreatDoorA10
import Derived.Test.YtemedepjmnncbaaGreatDoorPt
import Derived.Lib.LaidTab
import Derived.Lib.AppendIntMem
namespace Go.Proofs.YtemedepjmnncbaaGreatDoor
set_option linter.unusedVariables false
set_option linter.unusedSimpArgs false
open Go.RowKit Go.Shelf Pu

/-! What the library's functions read of the program's variables. -/
def Env (w : World) : Prop := (∃ m : Int, w.cell? ⟨1, 0, none⟩ = some (.int .i64 m)) ∧ Lib.TabIs Tryz.prog w "internal/strconv.uint64pow10" .u64 Lib.pow10Tab
theorem tab_below {n : String} {g : Nat} {k : IntKind} {zs : List Int} {w w' : World} (hg : Tryz.prog.globalNamed n = some g) (h : Lib.TabIs Tryz.prog w n k zs) (hb : Below w.heap.size w w') : Lib.TabIs Tryz.prog w' n k zs := by
  unfold Lib.TabIs World.var? at h ⊢
  rw [hg] at h ⊢
  simp only [Option.bind_some] at h ⊢
  have hlt : g < w.heap.size := by
    rcases Nat.lt_or_ge g w.heap.size with h' | h'
    · exact h'
    · rw [Array.getElem?_eq_none h'] at h; cases h
  rw [hb.block g hlt]
  exact h
theorem Env.below {w w' : World} (h : Env w) (hb : Below w.heap.size w w') : Env w' := by
  obtain ⟨⟨m, hm⟩, ht⟩ := h
  refine ⟨⟨m, ?_⟩, tab_below (g := 0) (by kernel_rfl) ht hb⟩
  rw [World.cell?_of_block (w := w) (a := ⟨1, 0, none⟩) (hb.block 1 (World.block_lt_of_cell? w _ hm))]; exact hm
theorem bl_append (a b : List UInt8) : (⟨a.toArray⟩ : ByteArray) ++ ⟨b.toArray⟩ = ⟨(a ++ b).toArray⟩ := by
  apply ByteArray.ext; simp
theorem itoa_c (n : Int) (w : World) (h : inR n) (hE : Env w) : Calls Tryz.prog 99 #[.int .i64 n] w fun e w' => e = .returned (.string ⟨(itoa n).toArray⟩) ∧ Below w.heap.size w w' :=
  (Tryz.strconv_Itoa n h.1 h.2 w hE.2).mono fun e w' ⟨h1, k, os, h2⟩ => ⟨by rw [h1, itoa_lib], h2 ▸ Lib.below_grow _ _ (Nat.le_refl _) _ _⟩
theorem fmtint_c (n : Int) (w : World) (h : inR n) (hE : Env w) : Calls Tryz.prog 131 #[.int .i64 n, .int .i64 10] w fun e w' => e = .returned (.string ⟨(itoa n).toArray⟩) ∧ Below w.heap.size w w' :=
  (Tryz.strconv_FormatInt_10 n h.1 h.2 w hE.2).mono fun e w' ⟨h1, k, os, h2⟩ => ⟨by rw [h1, itoa_lib], h2 ▸ Lib.below_grow _ _ (Nat.le_refl _) _ _⟩
theorem replace_c (s : ByteArray) (w : World) (h : s.size ≤ 255) (hE : Env w) : Calls Tryz.prog 132 #[.string s, .string ⟨#[39]⟩, .string ⟨#[39, 39]⟩] w fun e w' => e = .returned (.string ⟨(esc s.data.toList).toArray⟩) ∧ Below w.heap.size w w' := by
  obtain ⟨m, hm⟩ := hE.1
  refine (Tryz.strings_ReplaceAll s ⟨#[39]⟩ ⟨#[39, 39]⟩ m w (by omega) hm (by decide) ?_).mono fun e w' ⟨h1, h2⟩ => ⟨?_, h2⟩
  · have := Lib.count_le s.data.toList [39]
    have e1 : s.data.toList.length = s.size := by rw [Array.length_toList]; rfl
    have : Lib.countB s ⟨#[39]⟩ ≤ 256 := by
      show Lib.count s.data.toList _ ≤ 256
      have e2 : (⟨#[39]⟩ : ByteArray).data.toList = [39] := rfl
      rw [e2]; omega
    have e3 : (⟨#[39, 39]⟩ : ByteArray).size = 2 := rfl
    rw [e3]; omega
  · rw [h1, show (⟨#[39]⟩ : ByteArray).data.toList = [39] from rfl, show (⟨#[39, 39]⟩ : ByteArray).data.toList = [39, 39] from rfl, esc_lib]
theorem dig_len (k : Nat) : ∀ n, n < 10 ^ k → (dig n).length ≤ k + 1 := by
  induction k with
  | zero => intro n hn; simp at hn; subst hn; unfold dig; simp
  | succ k ih =>
    intro n hn
    unfold dig
    split
    · simp
    · have := ih (n / 10) (by rw [Nat.pow_succ] at hn; omega)
      simp; omega
theorem itoa_len {n : Int} (h : inR n) : (itoa n).length ≤ 600 := by
  obtain ⟨h1, h2⟩ := h
  unfold itoa
  split
  · have := dig_len 20 (-n).toNat (by omega)
    simp; omega
  · have := dig_len 20 n.toNat (by omega)
    omega
theorem esc_len (l : List UInt8) : (esc l).length ≤ 2 * l.length := by
  induction l with
  | nil => simp [esc]
  | cons c l ih => simp only [esc]; split <;> simp <;> omega
set_option maxRecDepth 100000 in
set_option maxHeartbeats 1000000 in
theorem fmt_c (v : Va) (w : World) (hv : vvalid v = true) (h1 : inR v.f1) (hE : Env w) : Calls Tryz.prog 98 #[vaV v] w fun e w' => e = .returned (.string ⟨(fmtV v).toArray⟩) ∧ Below w.heap.size w w' := by
  have HV : Hid _ := hv
  have HE : Hid _ := hE
  have HR : Hid _ := h1
  have hs := app_vr_size hv
  clear hv hE h1
  by_cases h0 : v.f0 = 0
  · have h0' : (v.f0 == 0) = true := by simp [h0]
    have H0 : Hid _ := h0
    clear h0
    go_enter Tryz.func98, Tryz.ntmps98
    go_wp2_with fail
    refine (vvalid_c v _).mono ?_
    rintro e w1 ⟨rfl, hb⟩
    have hblk := bk hb (n := w.heap.size) (alloc_at rfl)
    have HB : Hid (Below w.heap.size w w1) := bt (ba (Below.refl _ _) _) hb
    have qc0 := blk_cell hblk 0 rfl
    have qc1 := blk_cell hblk 1 rfl
    have qc2 := blk_cell hblk 2 rfl
    clear hb hblk
    rw [HV.out]
    go_wp2_with fail
    refine (fmtint_c v.f1 _ HR.out (Env.below HE.out HB.out)).mono ?_
    rintro e w2 ⟨rfl, hb⟩
    have HB2 : Hid _ := hb
    clear hb
    go_wp2_with fail
    go_ret
    exact ⟨by simp only [fmtV, H0.out, if_true]; rfl, bt HB.out HB2.out⟩
  · have h0' : (v.f0 == 0) = false := by simp [h0]
    by_cases h1 : v.f0 = 1
    · have h1' : (v.f0 == 1) = true := by simp [h1]
      have H0 : Hid _ := h1
      clear h0 h1
      go_enter Tryz.func98, Tryz.ntmps98
      go_wp2_with fail
      refine (vvalid_c v _).mono ?_
      rintro e w1 ⟨rfl, hb⟩
      have hblk := bk hb (n := w.heap.size) (alloc_at rfl)
      have HB : Hid (Below w.heap.size w w1) := bt (ba (Below.refl _ _) _) hb
      have qc0 := blk_cell hblk 0 rfl
      have qc1 := blk_cell hblk 1 rfl
      have qc2 := blk_cell hblk 2 rfl
      clear hb hblk
      rw [HV.out]
      go_wp2_with fail
      refine (replace_c v.f2 _ hs (Env.below HE.out HB.out)).mono ?_
      rintro e w2 ⟨rfl, hb⟩
      have HB2 : Hid _ := hb
      have he : (esc v.f2.data.toList).length ≤ 600 := by
        have he := esc_len v.f2.data.toList
        rw [show v.f2.data.toList.length = v.f2.size by rw [Array.length_toList]; rfl] at he
        omega
      clear hb
      go_wp2_with fail
      go_ret
      refine ⟨?_, bt HB.out HB2.out⟩
      have e39 : (⟨#[39]⟩ : ByteArray) = ⟨[39].toArray⟩ := rfl
      have e : fmtV v = 39 :: (esc v.f2.data.toList ++ [39]) := by unfold fmtV; rw [if_neg (by rw [H0.out]; decide), if_pos H0.out]
      rw [e]
      show Ending.returned (.string ((⟨#[39]⟩ : ByteArray) ++ ⟨(esc v.f2.data.toList).toArray⟩ ++ ⟨#[39]⟩)) = _
      rw [e39, bl_append, bl_append]; rfl
    · have h1' : (v.f0 == 1) = false := by simp [h1]
      have H0 : Hid _ := h0
      have H1 : Hid _ := h1
      clear h0 h1
      by_cases h2 : v.f1 = 1
      · have g1 : (v.f1 == 1) = true := by simp [h2]
        have G : Hid _ := h2
        clear h2
        go_enter Tryz.func98, Tryz.ntmps98
        go_wp2_with fail
        refine (vvalid_c v _).mono ?_
        rintro e w1 ⟨rfl, hb⟩
        have hblk := bk hb (n := w.heap.size) (alloc_at rfl)
        have HB : Hid (Below w.heap.size w w1) := bt (ba (Below.refl _ _) _) hb
        have qc0 := blk_cell hblk 0 rfl
        have qc1 := blk_cell hblk 1 rfl
        have qc2 := blk_cell hblk 2 rfl
        clear hb hblk
        rw [HV.out]
        go_wp2_with fail
        go_ret
        refine ⟨?_, HB.out⟩
        have e : fmtV v = [84, 82, 85, 69] := by unfold fmtV; rw [if_neg H0.out, if_neg H1.out, if_pos G.out]
        rw [e]; rfl
      · have g1 : (v.f1 == 1) = false := by simp [h2]
        have G : Hid _ := h2
        clear h2
        go_enter Tryz.func98, Tryz.ntmps98
        go_wp2_with fail
        refine (vvalid_c v _).mono ?_
        rintro e w1 ⟨rfl, hb⟩
        have hblk := bk hb (n := w.heap.size) (alloc_at rfl)
        have HB : Hid (Below w.heap.size w w1) := bt (ba (Below.refl _ _) _) hb
        have qc0 := blk_cell hblk 0 rfl
        have qc1 := blk_cell hblk 1 rfl
        have qc2 := blk_cell hblk 2 rfl
        clear hb hblk
        rw [HV.out]
        go_wp2_with fail
        go_ret
        refine ⟨?_, HB.out⟩
        have e : fmtV v = [70, 65, 76, 83, 69] := by unfold fmtV; rw [if_neg H0.out, if_neg H1.out, if_neg G.out]
        rw [e]; rfl

/-! text, Format. -/
theorem cellB {w w' : World} (hb : Below w.heap.size w w') {a : Addr} {v : Value} (h : w.cell? a = some v) : w'.cell? a = some v := (hb.cell (World.block_lt_of_cell? w a h)).trans h
def C7 (w : World) (b q : Nat) (x : Sc) (A : Option Addr) (c : Nat) : Prop := w.cell? ⟨b, q, none⟩ = some (.int .i64 x.f0) ∧ w.cell? ⟨b, q + 1, none⟩ = some (.int .i64 x.f1) ∧
  w.cell? ⟨b, q + 2, none⟩ = some (.int .i64 x.f2.f0) ∧ w.cell? ⟨b, q + 3, none⟩ = some (.int .i64 x.f2.f1) ∧ w.cell? ⟨b, q + 4, none⟩ = some (.string x.f2.f2) ∧
  w.cell? ⟨b, q + 5, none⟩ = some (.int .i64 x.f3) ∧ w.cell? ⟨b, q + 6, none⟩ = some (.slice A x.f4.length c)
theorem C7.below {w w' : World} {b q : Nat} {x : Sc} {A : Option Addr} {c : Nat} (h : C7 w b q x A c) (hb : Below w.heap.size w w') : C7 w' b q x A c := by
  obtain ⟨h0, h1, h2, h3, h4, h5, h6⟩ := h
  exact ⟨cellB hb h0, cellB hb h1, cellB hb h2, cellB hb h3, cellB hb h4, cellB hb h5, cellB hb h6⟩
def TxC (f : Nat) (t : Sc) : Prop := ∀ (W : World) (A : Option Addr) (c : Nat), scW t → size t ≤ 1000 → Env W → ScRow (· < W.heap.size) W A t.f4 →
  Calls Tryz.prog f #[scV t A c] W fun e W' => e = .returned (.string ⟨(text t).toArray⟩) ∧ Below W.heap.size W W'
theorem fmt_len {v : Va} (h : vvalid v = true) (h1 : inR v.f1) : (fmtV v).length ≤ 600 := by
  have hs := app_vr_size h
  have he := esc_len v.f2.data.toList
  have e1 : v.f2.data.toList.length = v.f2.size := by rw [Array.length_toList]; rfl
  unfold fmtV
  split
  · exact itoa_len h1
  · split
    · simp; omega
    · split <;> simp
theorem sym_len {n : Nat} (hn : n < 14) : (symB n).size ≤ 3 := by
  have hc : n = 0 ∨ n = 1 ∨ n = 2 ∨ n = 3 ∨ n = 4 ∨ n = 5 ∨ n = 6 ∨ n = 7 ∨ n = 8 ∨ n = 9 ∨ n = 10 ∨ n = 11 ∨ n = 12 ∨ n = 13 := by omega
  rcases hc with rfl | rfl | rfl | rfl | rfl | rfl | rfl | rfl | rfl | rfl | rfl | rfl | rfl | rfl <;> decide
def vrT : Sc → Prop := scW
theorem text_len (t : Sc) (hok : okT t = true) : scW t → (text t).length ≤ 700 * size t := by
  refine okT_ind (P := fun t => scW t → (text t).length ≤ 700 * size t) ?_ ?_ ?_ ?_ t hok
  · intro v hv hW
    have := fmt_len hv (scW_top hW).2.2.2.1
    rw [text_const]; simp [size, sizes]; omega
  · intro c hc hW
    have := itoa_len (n := c) (scW_top hW).2.1
    rw [text_ref]; simp [size, sizes]; omega
  · intro o x ho hx ih hW
    have := ih (scW_kids hW (y := x) (by simp))
    have hs := sym_len (n := o.toNat) (by omega)
    have e : (sym o).length = (symB o.toNat).size := by unfold symB; rw [show ((o.toNat : Nat) : Int) = o by omega]; simp [ByteArray.size]
    rw [text_un]; simp [size, sizes]; omega
  · intro o x y h0 h1 h3 hx hy ihx ihy hW
    have := ihx (scW_kids hW (y := x) (by simp))
    have := ihy (scW_kids hW (y := y) (by simp))
    have hs := sym_len (n := o.toNat) (by omega)
    have e : (sym o).length = (symB o.toNat).size := by unfold symB; rw [show ((o.toNat : Nat) : Int) = o by omega]; simp [ByteArray.size]
    rw [text_bin]; simp [size, sizes]; omega
set_option maxRecDepth 100000 in
set_option maxHeartbeats 4000000 in
theorem text_c (t : Sc) (hok : okT t = true) : TxC 65 t := by
  refine okT_ind (P := fun t => TxC 65 t) ?_ ?_ ?_ ?_ t hok
  · intro v hv W A c hW hZ hE hr
    have hw := (scW_top hW).2.2.2.1
    have HE : Hid _ := hE
    have HW : Hid _ := hw
    have HV : Hid _ := hv
    clear hE hw hW hv
    go_enter Tryz.func65, Tryz.ntmps65
    go_wp2_with fail
    refine (fmt_c v _ HV.out HW.out (Env.below HE.out (ba (Below.refl _ _) _))).mono ?_
    rintro e w1 ⟨rfl, hb⟩
    have HB : Hid (Below W.heap.size W w1) := bt (ba (Below.refl _ _) _) hb
    clear hb
    go_wp2_with fail
    go_ret
    exact ⟨by rw [text_const]; rfl, HB.out⟩
  · intro i hi W A c hW hZ hE hr
    have hw := (scW_top hW).2.1
    have HE : Hid _ := hE
    have HW : Hid _ := hw
    have hil := itoa_len hw
    clear hE hw hW hi
    go_enter Tryz.func65, Tryz.ntmps65
    go_wp2_with fail
    refine (itoa_c i _ HW.out (Env.below HE.out (ba (Below.refl _ _) _))).mono ?_
    rintro e w1 ⟨rfl, hb⟩
    have HB : Hid (Below W.heap.size W w1) := bt (ba (Below.refl _ _) _) hb
    clear hb
    go_wp2_with fail
    go_ret
    refine ⟨?_, HB.out⟩
    rw [text_ref]
    show Ending.returned (.string ((⟨[35].toArray⟩ : ByteArray) ++ ⟨(itoa i).toArray⟩)) = _
    rw [bl_append]; rfl
  · intro o x ho hx ih W A c hW hZ hE hr
    obtain ⟨n, rfl⟩ : ∃ n : Nat, o = n := ⟨o.toNat, by omega⟩
    have hn : n < 14 := by omega
    obtain ⟨b, q, A', c', rfl, hbS, hc', hr', e0, e1, e2, e3, e4, e5, e6⟩ := hr.get (i := 0) rfl
    simp only [Nat.zero_mul, Nat.add_zero] at e0 e1 e2 e3 e4 e5 e6
    have HC : Hid (C7 W b q x A' c') := ⟨e0, e1, e2, e3, e4, e5, e6⟩
    have HE : Hid _ := hE
    have HI : Hid _ := ih
    have HW : Hid _ := scW_kids hW (y := x) (by simp)
    have HR : Hid _ := hr'
    have h0i : (0 : Int) ≤ (n : Int) := by omega
    have h1i : (n : Int) < 14 := by omega
    clear hE ih hW hr' hr ho e0 e1 e2 e3 e4 e5 e6
    go_enter Tryz.func65, Tryz.ntmps65
    go_wp2_with fail
    go_region_held3 (fun w' => w'.cell? ⟨W.heap.size, 5, none⟩ = some (.int .i64 (n : Int))) (go_keep) (first | (go_at_call 86; refine (operators_c _).mono ?_; rintro e w1 ⟨g, rfl, hg1, hg2, hO, hb⟩; obtain ⟨v, hv, p0, p1, p2, p3, p4⟩ := hO n hn; have HB1 : Hid (Below W.heap.size W w1) := bt (bd (ba (Below.refl _ _) _)) hb; have t5 := blk_cell (bk hb (n := W.heap.size) (alloc_at rfl)) 5 rfl; have t6 := blk_cell (bk hb (n := W.heap.size) (alloc_at rfl)) 6 rfl; clear hv hO hb))
    have htl := text_len x hx HW.out
    have hZ' : size x ≤ 1000 := by simp [size, sizes] at hZ; omega
    have hsl := sym_len hn
    obtain ⟨x0, x1, x2, x3, x4, x5, x6⟩ := C7.below HC.out HB1.out
    clear hZ
    go_wp2_with fail
    refine (HI.out _ A' c' HW.out hZ' (Env.below HE.out HB1.out) (ScRow.low HR.out HB1.out HB1.out.size)).mono ?_
    rintro e w2 ⟨rfl, hb⟩
    have HB2 : Hid _ := hb
    clear hb
    go_wp2_with fail
    go_ret
    refine ⟨?_, bt HB1.out HB2.out⟩
    rw [text_un]
    show Ending.returned (.string ((⟨[40].toArray⟩ : ByteArray) ++ ⟨(sym n).toArray⟩ ++ ⟨[32].toArray⟩ ++ ⟨(text x).toArray⟩ ++ ⟨[41].toArray⟩)) = _
    rw [bl_append, bl_append, bl_append, bl_append]; simp
  · intro o x y h0 h1 h3 hx hy ihx ihy W A c hW hZ hE hr
    obtain ⟨n, rfl⟩ : ∃ n : Nat, o = n := ⟨o.toNat, by omega⟩
    have hn : n < 14 := by omega
    obtain ⟨b, q, A', c', rfl, hbS, hc', hr', e0, e1, e2, e3, e4, e5, e6⟩ := hr.get (i := 0) rfl
    obtain ⟨b2, q2, A2, c2, hA, hbS2, hc2, hr2, f0, f1, f2, f3, f4, f5, f6⟩ := hr.get (i := 1) rfl
    injection hA with hA
    injection hA with hA1 hA2
    subst hA1 hA2
    simp only [Nat.zero_mul, Nat.add_zero, Nat.one_mul] at e0 e1 e2 e3 e4 e5 e6 f0 f1 f2 f3 f4 f5 f6
    have HC : Hid (C7 W b q x A' c') := ⟨e0, e1, e2, e3, e4, e5, e6⟩
    have HC2 : Hid (C7 W b (q + 7) y A2 c2) := ⟨f0, f1, f2, f3, f4, f5, f6⟩
    have HE : Hid _ := hE
    have HI : Hid _ := ihx
    have HI2 : Hid _ := ihy
    have HW : Hid _ := scW_kids hW (y := x) (by simp)
    have HW2 : Hid _ := scW_kids hW (y := y) (by simp)
    have HR : Hid _ := hr'
    have HR2 : Hid _ := hr2
    have h0i : (0 : Int) ≤ (n : Int) := by omega
    have h1i : (n : Int) < 14 := by omega
    clear hE ihx ihy hW hr' hr hr2 e0 e1 e2 e3 e4 e5 e6 f0 f1 f2 f3 f4 f5 f6 h0 h1 h3
    go_enter Tryz.func65, Tryz.ntmps65
    go_wp2_with fail
    go_region_held3 (fun w' => w'.cell? ⟨W.heap.size, 5, none⟩ = some (.int .i64 (n : Int))) (go_keep) (first | (go_at_call 86; refine (operators_c _).mono ?_; rintro e w1 ⟨g, rfl, hg1, hg2, hO, hb⟩; obtain ⟨v, hv, p0, p1, p2, p3, p4⟩ := hO n hn; have HB1 : Hid (Below W.heap.size W w1) := bt (bd (ba (Below.refl _ _) _)) hb; have t5 := blk_cell (bk hb (n := W.heap.size) (alloc_at rfl)) 5 rfl; have t6 := blk_cell (bk hb (n := W.heap.size) (alloc_at rfl)) 6 rfl; clear hv hO hb))
    have htl := text_len x hx HW.out
    have htl2 := text_len y hy HW2.out
    have hZ' : size x + size y ≤ 1000 := by simp [size, sizes] at hZ; omega
    have hZ1 : size x ≤ 1000 := by omega
    have hZ2 : size y ≤ 1000 := by omega
    have hsl := sym_len hn
    obtain ⟨x0, x1, x2, x3, x4, x5, x6⟩ := C7.below HC.out HB1.out
    obtain ⟨y0, y1, y2, y3, y4, y5, y6⟩ := C7.below HC2.out HB1.out
    clear hZ
    have l0 : ¬ 9223372036854775807 < 1 + (text x).length := by omega
    have l1 : ¬ 9223372036854775807 < 1 + (text x).length + 1 := by omega
    have l2 : ¬ 9223372036854775807 < 1 + (text x).length + 1 + (symB n).size := by omega
    have l3 : ¬ 9223372036854775807 < 1 + (text x).length + 1 + (symB n).size + 1 := by omega
    have l4 : ¬ 9223372036854775807 < 1 + (text x).length + 1 + (symB n).size + 1 + (text y).length := by omega
    have l5 : ¬ 9223372036854775807 < 1 + (text x).length + 1 + (symB n).size + 1 + (text y).length + 1 := by omega
    clear htl htl2 hsl
    go_wp2_with fail
    go_region_held3 (fun w' => w'.cell? ⟨W.heap.size, 6, none⟩ = some (.slice (some ⟨b, q, none⟩) 2 c) ∧ w'.cell? ⟨b, q, none⟩ = some (.int .i64 x.f0) ∧ w'.cell? ⟨b, q + 1, none⟩ = some (.int .i64 x.f1) ∧ w'.cell? ⟨b, q + 2, none⟩ = some (.int .i64 x.f2.f0) ∧ w'.cell? ⟨b, q + 3, none⟩ = some (.int .i64 x.f2.f1) ∧ w'.cell? ⟨b, q + 4, none⟩ = some (.string x.f2.f2) ∧ w'.cell? ⟨b, q + 5, none⟩ = some (.int .i64 x.f3) ∧ w'.cell? ⟨b, q + 6, none⟩ = some (.slice A' x.f4.length c') ∧ w'.cell? ⟨b, q + 7, none⟩ = some (.int .i64 y.f0) ∧ w'.cell? ⟨b, q + 7 + 1, none⟩ = some (.int .i64 y.f1) ∧ w'.cell? ⟨b, q + 7 + 2, none⟩ = some (.int .i64 y.f2.f0) ∧ w'.cell? ⟨b, q + 7 + 3, none⟩ = some (.int .i64 y.f2.f1) ∧ w'.cell? ⟨b, q + 7 + 4, none⟩ = some (.string y.f2.f2) ∧ w'.cell? ⟨b, q + 7 + 5, none⟩ = some (.int .i64 y.f3) ∧ w'.cell? ⟨b, q + 7 + 6, none⟩ = some (.slice A2 y.f4.length c2)) (go_keep) (first | (go_at_call 65; refine (HI2.out _ A2 c2 HW2.out hZ2 (Env.below HE.out HB2.out) (ScRow.low HR2.out HB2.out HB2.out.size)).mono ?_; rintro e w3 ⟨rfl, hb⟩; have HB3 : Hid (Below W.heap.size W w3) := bt HB2.out hb; have t8 := cellB hb t7; obtain ⟨g0, g1, g2, g3, g4, g5, g6⟩ := C7.below HC.out HB3.out; obtain ⟨k0, k1, k2, k3, k4, k5, k6⟩ := C7.below HC2.out HB3.out; clear hb) | (go_at_call 65; refine (HI.out _ A' c' HW.out hZ1 (Env.below HE.out (bd HB1.out)) (ScRow.low HR.out (bd HB1.out) HB1.out.size)).mono ?_; rintro e w2 ⟨rfl, hb⟩; have HB2 : Hid (Below W.heap.size W w2) := bt (bd HB1.out) hb; have t7 := cellB (w := w1) (bt (bd (Below.refl _ _)) hb) t6; obtain ⟨u0, u1, u2, u3, u4, u5, u6⟩ := C7.below HC.out HB2.out; obtain ⟨v0, v1, v2, v3, v4, v5, v6⟩ := C7.below HC2.out HB2.out; clear hb))
    go_wp2_with fail
    go_ret
    refine ⟨?_, HB3.out⟩
    rw [text_bin]
    show Ending.returned (.string ((⟨[40].toArray⟩ : ByteArray) ++ ⟨(text x).toArray⟩ ++ ⟨[32].toArray⟩ ++ ⟨(sym n).toArray⟩ ++ ⟨[32].toArray⟩ ++ ⟨(text y).toArray⟩ ++ ⟨[41].toArray⟩)) = _
    rw [bl_append, bl_append, bl_append, bl_append, bl_append, bl_append]; simp
end Go.Proofs.YtemedepjmnncbaaGreatDoor
