import Derived.Test.YtemedepjmnncbaaGreatDoorA17
import Derived.Test.YtemedepjmnncbaaGreatDoorFr
import Derived.OwnWalk
namespace Go.Proofs.YtemedepjmnncbaaGreatDoor
set_option linter.unusedVariables false
set_option linter.unusedSimpArgs false
open Go.RowKit Go.Shelf Pu

structure AI (S : Nat → Prop) (W0 W : World) (g N kk : Nat) (v4 v5 : Value) (n4 : Nat) (xs4 xs5 : List Value) (fv : Va) (L : Nat → Prop) (x4 x5 x35 x36 x37 x38 x39 x40 x41 x42 x43 x44 x45 x46 x47 x48 x49 x50 x51 : Value) : Prop where
  low : Below (g + 1) W0 W
  srow : ∀ b, S b → W.heap[b]? = W0.heap[b]?
  f0 : L 0 → x35 = v4
  f1 : L 1 → x36 = .slice (some ⟨g, 0, none⟩) N N
  f2 : L 2 → x37 = .int .i64 (kk : Int)
  f3 : L 3 → x38 = .pointer (some ⟨g, kk * 7, none⟩)
  f4 : L 4 → x39 = .pointer (some ⟨g, kk * 7 + 2, none⟩)
  f5 : L 5 → x40 = vaV fv
  f8 : L 8 → x43 = v5
  f9 : L 9 → x44 = .slice (some ⟨g, 0, none⟩) N N
  f10 : L 10 → x45 = .int .i64 (kk : Int)
  f11 : L 11 → x46 = .pointer (some ⟨g, kk * 7, none⟩)
  f12 : L 12 → x47 = .pointer (some ⟨g, kk * 7 + 2, none⟩)
  f13 : L 13 → x48 = .pointer (some ⟨g, kk * 7 + 2, none⟩)
  f14 : L 14 → x49 = .int .i64 fv.f0
  f6 : L 6 → ∃ m, x41 = .slice (some ⟨m, 0, none⟩) 1 1 ∧ W0.heap.size ≤ m ∧ W.heap[m]? = some (Obj.cells #[.int .i64 fv.f0, .int .i64 fv.f1, .string fv.f2] 23 (0, 0))
  f15 : L 15 → ∃ m, x50 = .slice (some ⟨m, 0, none⟩) 1 1 ∧ W0.heap.size ≤ m ∧ W.heap[m]? = some (Obj.cells #[.int .i64 fv.f0] 3 (0, 0))
  p4 : ¬ L 7 → W.ownsRow (g + 1) 23 3 v4 n4 xs4
  p5 : ¬ L 16 → W.ownsRow (g + 1) 3 1 v5 n4 xs5
  f7 : L 7 → W.ownsRow (g + 1) 23 3 x42 (n4 + 1) (xs4 ++ [.int .i64 fv.f0, .int .i64 fv.f1, .string fv.f2]) ∧ (x42.ownBlock = v4.ownBlock ∨ ∃ b, x42.ownBlock = some b ∧ W0.heap.size ≤ b)
  f16 : L 16 → W.ownsRow (g + 1) 3 1 x51 (n4 + 1) (xs5 ++ [.int .i64 fv.f0]) ∧ (x51.ownBlock = v5.ownBlock ∨ ∃ b, x51.ownBlock = some b ∧ W0.heap.size ≤ b) ∧ (∀ b, x42.ownBlock = some b → x51.ownBlock ≠ some b)
  f17 : L 17 → x4 = x42
  f18 : L 18 → x5 = x51
  t4 : ¬ L 17 → x4 = v4
  t5 : ¬ L 18 → x5 = v5
  c16 : L 16 → L 7
  c17 : L 17 → L 0 ∧ L 16
  c18 : L 18 → L 8 ∧ L 16
def AInv (S : Nat → Prop) (W0 : World) (g N kk : Nat) (v4 v5 : Value) (n4 : Nat) (xs4 xs5 : List Value) (fv : Va) (a0 : Act) (listed : Array Bool) (a : Act) (W : World) : Prop :=
  ∃ x4 x5 x35 x36 x37 x38 x39 x40 x41 x42 x43 x44 x45 x46 x47 x48 x49 x50 x51, a = { tmps := (((((((((((((((((((a0.tmps.setIfInBounds 4 x4).setIfInBounds 5 x5).setIfInBounds 35 x35).setIfInBounds 36 x36).setIfInBounds 37 x37).setIfInBounds 38 x38).setIfInBounds 39 x39).setIfInBounds 40 x40).setIfInBounds 41 x41).setIfInBounds 42 x42).setIfInBounds 43 x43).setIfInBounds 44 x44).setIfInBounds 45 x45).setIfInBounds 46 x46).setIfInBounds 47 x47).setIfInBounds 48 x48).setIfInBounds 49 x49).setIfInBounds 50 x50).setIfInBounds 51 x51), defers := [] } ∧ AI S W0 W g N kk v4 v5 n4 xs4 xs5 fv (fun j => listed.getD j false = true) x4 x5 x35 x36 x37 x38 x39 x40 x41 x42 x43 x44 x45 x46 x47 x48 x49 x50 x51
def FoldR (B0 : Nat) (W : World) (r : Sc) (e : Ending) (W' : World) : Prop := ∃ A c, e = .returned (scV r A c) ∧ r.f4.length ≤ c ∧ ScRow (fun b => b < B0 ∨ (W.heap.size ≤ b ∧ b < W'.heap.size)) W' A r.f4
def FoldC (f : Nat) (t : Sc) : Prop := ∀ (B0 : Nat) (W : World) (A : Option Addr) (c : Nat), okT t = true → B0 ≤ W.heap.size → t.f4.length ≤ c → ScRow (· < B0) W A t.f4 →
  Calls Tryz.prog f #[scV t A c] W fun e W' => FoldR B0 W (Pu.fold ltB t) e W' ∧ Below W.heap.size W W'
theorem folds_map (l : List Sc) : folds ltB l = l.map (Pu.fold ltB) := by
  induction l with
  | nil => rfl
  | cons x l ih => simp [folds, ih]
def OpC (W : World) (g n : Nat) (fv : Value) : Prop := W.cell? ⟨g, n * 5, none⟩ = some (.int .i64 (opnd n)) ∧ W.cell? ⟨g, n * 5 + 1, none⟩ = some (.int .i64 (ar (n : Int))) ∧ W.cell? ⟨g, n * 5 + 2, none⟩ = some (.int .i64 (ores n)) ∧ W.cell? ⟨g, n * 5 + 3, none⟩ = some (.string (symB n)) ∧ W.cell? ⟨g, n * 5 + 4, none⟩ = some fv
theorem OpC.below {W W' : World} {g n : Nat} {fv : Value} (h : OpC W g n fv) (hb : Below W.heap.size W W') : OpC W' g n fv := by
  obtain ⟨h0, h1, h2, h3, h4⟩ := h
  exact ⟨cellB' hb h0, cellB' hb h1, cellB' hb h2, cellB' hb h3, cellB' hb h4⟩
structure PI (W0 W : World) (s n N M : Nat) (v4 vA v5 : Value) (q ob : Bool) (L : Nat → Prop) (gg : Nat) (fv : Value) (x55 x56 x57 x58 x59 x60 x61 x62 x63 x64 x65 x66 x67 x68 : Value) : Prop where
  bel : Below W0.heap.size W0 W
  f0 : L 0 → x55 = v4
  f1 : L 1 → x56 = .int .i64 (N : Int)
  f2 : L 2 → x57 = vA
  f3 : L 3 → x58 = .int .i64 (M : Int)
  f4 : L 4 → x59 = .bool q
  f5 : L 5 → x60 = .bool q
  f6 : L 6 → q = true → x61 = .slice (some ⟨gg, 0, none⟩) 14 14
  f7 : L 7 → q = true → x62 = .pointer (some ⟨s, 5, none⟩)
  f8 : L 8 → q = true → x63 = .int .i64 (n : Int)
  f9 : L 9 → q = true → x64 = .pointer (some ⟨gg, n * 5, none⟩)
  f10 : L 10 → q = true → x65 = .agg #[.int .i64 (opnd n), .int .i64 (ar (n : Int)), .int .i64 (ores n), .string (symB n), fv]
  f11 : L 11 → q = true → x66 = v5
  f12 : L 12 → q = true → x67 = .bool ob
  f13 : L 13 → x68 = .bool (q && ob)
  op : L 6 → q = true → OpC W gg n fv
  c9 : L 9 → L 6
  c10 : L 10 → L 9
def PInv (W0 : World) (s n N M : Nat) (v4 vA v5 : Value) (q ob : Bool) (a0 : Act) (listed : Array Bool) (a : Act) (W : World) : Prop :=
  ∃ gg fv x55 x56 x57 x58 x59 x60 x61 x62 x63 x64 x65 x66 x67 x68, a = { tmps := ((((((((((((((a0.tmps.setIfInBounds 55 x55).setIfInBounds 56 x56).setIfInBounds 57 x57).setIfInBounds 58 x58).setIfInBounds 59 x59).setIfInBounds 60 x60).setIfInBounds 61 x61).setIfInBounds 62 x62).setIfInBounds 63 x63).setIfInBounds 64 x64).setIfInBounds 65 x65).setIfInBounds 66 x66).setIfInBounds 67 x67).setIfInBounds 68 x68), defers := [] } ∧ PI W0 W s n N M v4 vA v5 q ob (fun j => listed.getD j false = true) gg fv x55 x56 x57 x58 x59 x60 x61 x62 x63 x64 x65 x66 x67 x68
structure QI (W0 W : World) (s g n : Nat) (x : Sc) (vA : Value) (q ob : Bool) (L : Nat → Prop) (x90 x91 x92 x93 x94 x95 x96 x97 x98 x99 x100 x101 x102 x103 : Value) : Prop where
  bel : Below W0.heap.size W0 W
  f0 : L 0 → x90 = vA
  f1 : L 1 → x91 = .pointer (some ⟨g, 0, none⟩)
  f2 : L 2 → x92 = .pointer (some ⟨g, 0, none⟩)
  f3 : L 3 → x93 = .int .i64 x.f0
  f4 : L 4 → x94 = .bool q
  f5 : L 5 → x95 = .bool q
  f6 : L 6 → q = true → x96 = vA
  f7 : L 7 → q = true → x97 = .pointer (some ⟨g, 0, none⟩)
  f8 : L 8 → q = true → x98 = .pointer (some ⟨g, 5, none⟩)
  f9 : L 9 → q = true → x99 = .int .i64 x.f3
  f10 : L 10 → q = true → x100 = .pointer (some ⟨s, 5, none⟩)
  f11 : L 11 → q = true → x101 = .int .i64 (n : Int)
  f12 : L 12 → q = true → x102 = .bool ob
  f13 : L 13 → x103 = .bool (q && ob)
def QInv (W0 : World) (s g n : Nat) (x : Sc) (vA : Value) (q ob : Bool) (a0 : Act) (listed : Array Bool) (a : Act) (W : World) : Prop :=
  ∃  x90 x91 x92 x93 x94 x95 x96 x97 x98 x99 x100 x101 x102 x103, a = { tmps := ((((((((((((((a0.tmps.setIfInBounds 90 x90).setIfInBounds 91 x91).setIfInBounds 92 x92).setIfInBounds 93 x93).setIfInBounds 94 x94).setIfInBounds 95 x95).setIfInBounds 96 x96).setIfInBounds 97 x97).setIfInBounds 98 x98).setIfInBounds 99 x99).setIfInBounds 100 x100).setIfInBounds 101 x101).setIfInBounds 102 x102).setIfInBounds 103 x103), defers := [] } ∧ QI W0 W s g n x vA q ob (fun j => listed.getD j false = true)  x90 x91 x92 x93 x94 x95 x96 x97 x98 x99 x100 x101 x102 x103
theorem two_of {ls : List Sc} (h : ls.length = 2) : ls = [ls.headD scz, ls.getD 1 scz] := by
  match ls, h with
  | [x, y], _ => rfl
theorem one_of {ls : List Sc} (h : ls.length = 1) : ls = [ls.headD scz] := by
  match ls, h with
  | [x], _ => rfl
theorem logR_row {P : Nat → Prop} {WW : World} {r e a b : Sc} {A A0 A1 A2 : Option Addr} {c c0 c1 c2 : Nat} (h : (r = e ∧ A = A0 ∧ c = c0) ∨ (r = a ∧ A = A1 ∧ c = c1) ∨ (r = b ∧ A = A2 ∧ c = c2) ∨ (r.f4 = [] ∧ A = none ∧ c = 0))
    (h0 : ScRow P WW A0 e.f4) (l0 : e.f4.length ≤ c0) (h1 : ScRow P WW A1 a.f4) (l1 : a.f4.length ≤ c1) (h2 : ScRow P WW A2 b.f4) (l2 : b.f4.length ≤ c2) : ScRow P WW A r.f4 ∧ r.f4.length ≤ c := by
  rcases h with ⟨rfl, rfl, rfl⟩ | ⟨rfl, rfl, rfl⟩ | ⟨rfl, rfl, rfl⟩ | ⟨h, rfl, rfl⟩
  · exact ⟨h0, l0⟩
  · exact ⟨h1, l1⟩
  · exact ⟨h2, l2⟩
  · rw [h]; exact ⟨Row.nil _, Nat.le_refl _⟩
theorem FoldR_mk {B0 : Nat} {W W' : World} {r r' : Sc} {A : Option Addr} {c : Nat} (h : r' = r) (hc : r.f4.length ≤ c) (hr : ScRow (fun b => b < B0 ∨ (W.heap.size ≤ b ∧ b < W'.heap.size)) W' A r.f4) : FoldR B0 W r' (.returned (scV r A c)) W' := by
  subst h; exact ⟨A, c, rfl, hc, hr⟩
theorem FoldR_mk' {B0 : Nat} {W W' : World} {r r' : Sc} {A : Option Addr} {c N : Nat} (h : r' = r) (hN : r.f4.length = N) (hc : r.f4.length ≤ c) (hr : ScRow (fun b => b < B0 ∨ (W.heap.size ≤ b ∧ b < W'.heap.size)) W' A r.f4) : FoldR B0 W r' (.returned (.agg #[.int .i64 r.f0, .int .i64 r.f1, .int .i64 r.f2.f0, .int .i64 r.f2.f1, .string r.f2.f2, .int .i64 r.f3, .slice A N c])) W' := by
  subst h; subst hN; exact ⟨A, c, rfl, hc, hr⟩
theorem consts_all {ls : List Sc} (h : (consts ls).length = ls.length) : ls.all isCon = true ∧ consts ls = ls.map (·.f2) := by
  induction ls with
  | nil => simp [consts]
  | cons x ls ih =>
    have hl := consts_len ls
    by_cases hx : x.f0 = 0
    · have e : consts (x :: ls) = x.f2 :: consts ls := by simp [consts, hx]
      rw [e] at h ⊢
      have := ih (by simpa using h)
      exact ⟨by rw [List.all_cons, this.1]; simp [isCon, hx], by rw [this.2]; rfl⟩
    · have e : consts (x :: ls) = consts ls := by simp [consts, hx]
      rw [e] at h; simp at h; omega
theorem consts_not {ls : List Sc} (h : ¬ (consts ls).length = ls.length) : ls.all isCon = false := by
  cases e : ls.all isCon with
  | false => rfl
  | true =>
    exfalso; apply h
    have : consts ls = ls.map (·.f2) := by
      clear h
      induction ls with
      | nil => rfl
      | cons x ls ih =>
        rw [List.all_cons, Bool.and_eq_true] at e
        have h0 : x.f0 = 0 := by simpa [isCon] using e.1
        have e2 : consts (x :: ls) = x.f2 :: consts ls := by simp [consts, h0]
        rw [e2, ih e.2]; rfl
    rw [this, List.length_map]
set_option maxRecDepth 100000 in
set_option maxHeartbeats 8000000 in
theorem fold_c (t : Sc) : FoldC 63 t := by
  refine Sc.ind (P := FoldC 63) ?_ t
  intro k0 c0 v0 o0 l ih B0 W A c hok hB0 hc hr
  have hlr := hr.1
  by_cases h2 : k0 = 2
  · have h2' : (k0 != 2) = false := by simp [h2]
    obtain ⟨-, rfl, rfl, ⟨n, rfl, hn, hla⟩, hl2, hl1, hokl⟩ := okT_op hok (by omega) (by omega)
    have H2 : Hid (k0 = 2) := h2
    have HOK : Hid _ := hokl
    have HA : Hid _ := hla
    have IH : Hid _ := ih
    clear h2 hokl hla hok ih
    obtain ⟨i0, hi0, hz0, hz1, hz2⟩ := inf_scalar
    go_enter Tryz.func63, Tryz.ntmps63
    go_wp2_with (at_make; go_loud (refine wpList_make_full _ rfl _ _ 24 rfl (W.heap.size + 1 + 1) 26 i0 _ 7 Tryz.underlying24 hi0 hz2 hz0 .i64 .i64 _ _ l.length rfl rfl rfl rfl (by rw [hz1]; omega) (by unfold maxLen; omega) (by simp) ?_); intro w0 hown0 hgrow0; have HBl : Hid (Below W.heap.size W w0) := Below.grown (ba (ba (Below.refl _ _) _) _) hgrow0 (by simp; omega) (fun k hk => by cases hk); have HK0 : Hid _ := (hgrow0.block W.heap.size (by simp; omega) (by simp)).trans (alloc_lt (alloc_at rfl)); have HK1 : Hid _ := (hgrow0.block (W.heap.size + 1) (by simp) (by simp)).trans (alloc_at (by simp)); have j0 := HK0.out; have z0 := blk_cell j0 0 rfl; have z1 := blk_cell j0 1 rfl; have z2 := blk_cell j0 2 rfl; have z3 := blk_cell j0 3 rfl; have z4 := blk_cell j0 4 rfl; have z5 := blk_cell j0 5 rfl; have z6 := blk_cell j0 6 rfl)
    have HFil : Hid (FillS (· < B0) w0 (W.heap.size + 1 + 1) l.length []) := by
      have h := FillS.make (cap := 0) (S := (· < B0)) hown0 (by simp; omega)
      have h' : FillS (fun x => x < B0) w0 (W.heap.size + 1 + 1) l.length [] := by simpa using h
      exact h'
    have HSz : Hid (W.heap.size + 1 + 1 < w0.heap.size) := (hown0.lt (W.heap.size + 1 + 1) (by simp [Value.ownBlock])).2
    clear hown0 hgrow0 j0
    go_loopg [4, 5, 19] l.length (fun gg s4 s5 s19 wr => ∃ kk : Nat, kk ≤ l.length ∧ l.length - kk ≤ gg ∧ s19 = .int .i64 kk ∧ Hid (Below W.heap.size W wr) ∧
      Hid (wr.heap[W.heap.size]? = some (Obj.cells #[.int .i64 k0, .int .i64 0, .int .i64 vz.f0, .int .i64 vz.f1, .string vz.f2, .int .i64 (n : Int), .slice A l.length c] 26 (0, 0))) ∧
      Hid (wr.heap[W.heap.size + 1]? = some (Obj.cells #[.int .i64 0, .int .i64 0, .int .i64 0, .int .i64 0, .string ⟨#[]⟩, .int .i64 0, .slice none 0 0] 26 (0, 0))) ∧
      ∃ S, Hid (FoldI W wr B0 (W.heap.size + 1 + 1) l.length ((l.take kk).map (Pu.fold ltB)) (consts ((l.take kk).map (Pu.fold ltB))) s4 s5 S))
    case atStart =>
      refine ⟨0, Nat.zero_le _, by omega, rfl, HBl.out, HK0.out, HK1.out, (· < B0), ?_⟩
      exact ⟨by simpa using HFil.out, fun b hb => ⟨.inl hb, by have := HSz.out; omega⟩, fun b hb => hb, ⟨[], World.ownsRow_nil _ _ _ _, rfl⟩, ⟨[], World.ownsRow_nil _ _ _ _, rfl⟩, fun b _ e => (by cases e), fun b _ e => (by cases e), fun b e => (by cases e)⟩
    case round =>
      obtain ⟨kk, hkk, hg, rfl, HB, HK, HR, S, HF⟩ := hrel
      by_cases hlt : kk < l.length
      · have hx := List.getElem?_eq_getElem hlt
        have hsz := HB.out.size
        have hgl := FoldI.glt HF.out
        obtain ⟨b, o, A', c', rfl, hbS, hc', hr', e0, e1, e2, e3, e4, e5, e6⟩ := (hr.below (HB.out.mono hB0)).get hx
        have hih := IH.out l[kk] (List.getElem_mem _)
        have hok' := HOK.out l[kk] (List.getElem_mem _)
        have HX : Hid (l[kk]? = some l[kk]) := hx
        clear hx z0 z1 z2 z3 z4 z5 z6
        generalize l[kk] = x at *
        have HI : Hid _ := hih
        clear hih
        go_wp2_with fail
        refine (HI.out B0 _ A' c' hok' (by simp; omega) hc' (hr'.below ((Below.refl _ _).alloc (by omega) _))).mono ?_
        rintro e w1 ⟨⟨A2, c2, rfl, hc2, hr2⟩, hb⟩
        have HB1 : Hid (Below wr.heap.size wr w1) := bt (ba (Below.refl _ _) _) hb
        have HFC : Hid _ := FoldI.call HF.out HB1.out
        have HR2 : Hid (ScRow (fun b => S b ∨ (wr.heap.size ≤ b ∧ b < w1.heap.size)) w1 A2 (Pu.fold ltB x).f4) := hr2.move fun b hb => ⟨hb.elim (fun hb => .inl (HF.out.low b hb)) fun hb => .inr ⟨by have := hb.1; simp at this; omega, hb.2⟩, rfl⟩
        have hxs : ((l.take kk).map (Pu.fold ltB)).length = kk := by simp; omega
        obtain ⟨y0, y1, y2, y3, y4, y5, y6, p0, p1, p2, p3, p4, p5, p6, hfz⟩ := FillS.free (HFC.out.fill) hlt
        have f0 := hfz (kk * 7); have f1 := hfz (kk * 7 + 1); have f2 := hfz (kk * 7 + 2); have f3 := hfz (kk * 7 + 3); have f4 := hfz (kk * 7 + 4); have f5 := hfz (kk * 7 + 5); have f6 := hfz (kk * 7 + 6)
        have HFS : Hid _ := FoldI.store HFC.out hc2 HR2.out (by omega) (k := kk * 7) (by omega)
        have HX1 : Hid _ := hxs
        clear hfz hxs hb hr2
        have HTK : Hid ((l.take (kk + 1)).map (Pu.fold ltB) = (l.take kk).map (Pu.fold ltB) ++ [Pu.fold ltB x]) := by rw [Hid, kinds_take_sc HX.out, List.map_append]; rfl
        generalize Pu.fold ltB x = fx at *
        by_cases hcst : fx.f0 = 0
        · have hcst' : (fx.f0 == 0) = true := by simp [hcst]
          have HC : Hid _ := hcst
          clear hcst
          go_wp2_with fail
          obtain ⟨b2, o2, A3, c3, e23, -, -, -, -, -, k2, k3, k4, -, -⟩ := (HFS.out.fill.done (by simp; omega)).get (i := kk) (x := fx) (by rw [List.getElem?_append_right (by rw [HX1.out]; exact Nat.le_refl _), HX1.out]; simp)
          injection e23 with e23; injection e23 with e23 e24; subst e23; subst e24
          simp only [Nat.zero_add] at k2 k3 k4
          have HC2 : Hid _ := k2
          have HC3 : Hid _ := k3
          have HC4 : Hid _ := k4
          have HBW : Hid (Below W.heap.size W _) := chain7_below (g := W.heap.size + 1 + 1) (o := kk * 7) (y0 := .int .i64 fx.f0) (y1 := .int .i64 fx.f1) (y2 := .int .i64 fx.f2.f0) (y3 := .int .i64 fx.f2.f1) (y4 := .string fx.f2.f2) (y5 := .int .i64 fx.f3) (y6 := .slice A2 fx.f4.length c2) (bt HB.out HB1.out) (by omega)
          have HKW : Hid _ := (chain7_other (g := W.heap.size + 1 + 1) (o := kk * 7) (y0 := .int .i64 fx.f0) (y1 := .int .i64 fx.f1) (y2 := .int .i64 fx.f2.f0) (y3 := .int .i64 fx.f2.f1) (y4 := .string fx.f2.f2) (y5 := .int .i64 fx.f3) (y6 := .slice A2 fx.f4.length c2) (by omega)).trans (bk HB1.out HK.out)
          have HRW : Hid _ := (chain7_other (g := W.heap.size + 1 + 1) (o := kk * 7) (y0 := .int .i64 fx.f0) (y1 := .int .i64 fx.f1) (y2 := .int .i64 fx.f2.f0) (y3 := .int .i64 fx.f2.f1) (y4 := .string fx.f2.f2) (y5 := .int .i64 fx.f3) (y6 := .slice A2 fx.f4.length c2) (by omega)).trans (bk HB1.out HR.out)
          clear k2 k3 k4
          unfold chain7 at HFS HC2 HC3 HC4 HBW HKW HRW
          generalize hW0 : (World.setCell (World.setCell (World.setCell (World.setCell (World.setCell (World.setCell (World.setCell w1 _ _) _ _) _ _) _ _) _ _) _ _) _ _) = W0 at HFS HC2 HC3 HC4 HBW HKW HRW ⊢
          clear hW0
          obtain ⟨xs4, o4, r4⟩ := HFS.out.o4
          obtain ⟨xs5, o5, r5⟩ := HFS.out.o5
          have hgl0 := FoldI.glt HFS.out
          have HG : Hid (W.heap.size + 1 + 1 + 1 ≤ W0.heap.size) := hgl0
          have hcl : (consts ((l.take kk).map (Pu.fold ltB))).length ≤ 2 := Nat.le_trans (consts_len _) (by rw [HX1.out]; omega)
          have HSub : Hid _ := fun b hb => (HFS.out.sub b hb).2
          have HV4 : Hid (∀ k, u4.ownBlock = some k → W.heap.size + 1 + 1 + 1 ≤ k ∧ k < W0.heap.size) := fun k hk => o4.lt k hk
          have HV5 : Hid (∀ k, u5.ownBlock = some k → W.heap.size + 1 + 1 + 1 ≤ k ∧ k < W0.heap.size) := fun k hk => o5.lt k hk
          have D4 : Hid _ := HFS.out.d4
          have D5 : Hid _ := HFS.out.d5
          have D45 : Hid _ := HFS.out.d45
          have O4 : Hid _ := o4
          have O5 : Hid _ := o5
          have R4 : Hid _ := r4
          have R5 : Hid _ := r5
          clear o4 o5 r4 r5
          refine wp_region_inv2 (by kernel_rfl) (AInv (fun b => S b ∨ (wr.heap.size ≤ b ∧ b < w1.heap.size)) W0 (W.heap.size + 1 + 1) l.length kk u4 u5 (consts ((l.take kk).map (Pu.fold ltB))).length xs4 xs5 fx.f2) (by kernel_rfl) ?_ ?_ ?_
          · refine ⟨u4, u5, u35, u36, u37, u38, u39, u40, u41, u42, u43, u44, u45, u46, u47, u48, u49, u50, u51, ?_, ?_⟩
            · simp only [List.setIfInBounds_toArray, List.set_cons_succ, List.set_cons_zero]
            · constructor
              · exact bd (Below.refl _ _)
              · exact fun b hb => rfl
              all_goals try (intro h; simp at h; done)
              · exact fun _ => own_below O4.out (bd (Below.refl _ _))
              · exact fun _ => own_below O5.out (bd (Below.refl _ _))
              all_goals exact fun _ => rfl
          · intro listed a' WW hsz hI i hi
            obtain ⟨hi0, oj, hoj, hall⟩ := mem_ready.1 hi
            have hlt2 : i < 19 := (Array.getElem?_eq_some_iff.1 hoj).1
            obtain ⟨x4, x5, x35, x36, x37, x38, x39, x40, x41, x42, x43, x44, x45, x46, x47, x48, x49, x50, x51, rfl, hx⟩ := hI
            have hcs : i = 0 ∨ i = 1 ∨ i = 2 ∨ i = 3 ∨ i = 4 ∨ i = 5 ∨ i = 6 ∨ i = 7 ∨ i = 8 ∨ i = 9 ∨ i = 10 ∨ i = 11 ∨ i = 12 ∨ i = 13 ∨ i = 14 ∨ i = 15 ∨ i = 16 ∨ i = 17 ∨ i = 18 := by omega
            clear hlt2
            rcases hcs with rfl | rfl | rfl | rfl | rfl | rfl | rfl | rfl | rfl | rfl | rfl | rfl | rfl | rfl | rfl | rfl | rfl | rfl | rfl
            · have hJ := hoj
              simp at hJ
              obtain rfl := (hx.t4 (fun h => absurd (hx.c17 h).1 (by rw [getD_both hi0]; decide))).symm
              have HX : Hid _ := hx
              have HI0 : Hid _ := hi0
              clear hx hall hoj hJ hi hi0
              simp only [List.setIfInBounds_toArray, List.set_cons_succ, List.set_cons_zero]
              refine wpOp_step (o := _) rfl fun K' hK => ?_
              rw [if_pos (by rfl)]
              have HK : Hid _ := hK
              clear hK
              go_wp2_with fail
              exact HK.out _ _ ⟨u4, x5, u4, x36, x37, x38, x39, x40, x41, x42, x43, x44, x45, x46, x47, x48, x49, x50, x51, by simp only [Act.put, List.setIfInBounds_toArray, List.set_cons_succ, List.set_cons_zero], ⟨HX.out.low, HX.out.srow, fun _ => rfl, fun h => HX.out.f1 (lset h (by decide)), fun h => HX.out.f2 (lset h (by decide)), fun h => HX.out.f3 (lset h (by decide)), fun h => HX.out.f4 (lset h (by decide)), fun h => HX.out.f5 (lset h (by decide)), fun h => HX.out.f8 (lset h (by decide)), fun h => HX.out.f9 (lset h (by decide)), fun h => HX.out.f10 (lset h (by decide)), fun h => HX.out.f11 (lset h (by decide)), fun h => HX.out.f12 (lset h (by decide)), fun h => HX.out.f13 (lset h (by decide)), fun h => HX.out.f14 (lset h (by decide)), fun h => HX.out.f6 (lset h (by decide)), fun h => HX.out.f15 (lset h (by decide)), fun h => HX.out.p4 (fun h' => h (getD_set_true h')), fun h => HX.out.p5 (fun h' => h (getD_set_true h')), fun h => HX.out.f7 (lset h (by decide)), fun h => HX.out.f16 (lset h (by decide)), fun h => HX.out.f17 (lset h (by decide)), fun h => HX.out.f18 (lset h (by decide)), fun h => HX.out.t4 (fun h' => h (getD_set_true h')), fun h => HX.out.t5 (fun h' => h (getD_set_true h')), fun h => getD_set_true (HX.out.c16 (lset h (by decide))), fun h => ⟨getD_set_true (HX.out.c17 (lset h (by decide))).1, getD_set_true (HX.out.c17 (lset h (by decide))).2⟩, fun h => ⟨getD_set_true (HX.out.c18 (lset h (by decide))).1, getD_set_true (HX.out.c18 (lset h (by decide))).2⟩⟩⟩
            · have hJ := hoj
              simp at hJ
              have HX : Hid _ := hx
              have HI0 : Hid _ := hi0
              clear hx hall hoj hJ hi hi0
              simp only [List.setIfInBounds_toArray, List.set_cons_succ, List.set_cons_zero]
              refine wpOp_step (o := _) rfl fun K' hK => ?_
              rw [if_pos (by rfl)]
              have HK : Hid _ := hK
              clear hK
              go_wp2_with fail
              exact HK.out _ _ ⟨x4, x5, x35, .slice (some ⟨(W.heap.size + 1 + 1), 0, none⟩) l.length l.length, x37, x38, x39, x40, x41, x42, x43, x44, x45, x46, x47, x48, x49, x50, x51, by simp only [Act.put, List.setIfInBounds_toArray, List.set_cons_succ, List.set_cons_zero], ⟨HX.out.low, HX.out.srow, fun h => HX.out.f0 (lset h (by decide)), fun _ => rfl, fun h => HX.out.f2 (lset h (by decide)), fun h => HX.out.f3 (lset h (by decide)), fun h => HX.out.f4 (lset h (by decide)), fun h => HX.out.f5 (lset h (by decide)), fun h => HX.out.f8 (lset h (by decide)), fun h => HX.out.f9 (lset h (by decide)), fun h => HX.out.f10 (lset h (by decide)), fun h => HX.out.f11 (lset h (by decide)), fun h => HX.out.f12 (lset h (by decide)), fun h => HX.out.f13 (lset h (by decide)), fun h => HX.out.f14 (lset h (by decide)), fun h => HX.out.f6 (lset h (by decide)), fun h => HX.out.f15 (lset h (by decide)), fun h => HX.out.p4 (fun h' => h (getD_set_true h')), fun h => HX.out.p5 (fun h' => h (getD_set_true h')), fun h => HX.out.f7 (lset h (by decide)), fun h => HX.out.f16 (lset h (by decide)), fun h => HX.out.f17 (lset h (by decide)), fun h => HX.out.f18 (lset h (by decide)), fun h => HX.out.t4 (fun h' => h (getD_set_true h')), fun h => HX.out.t5 (fun h' => h (getD_set_true h')), fun h => getD_set_true (HX.out.c16 (lset h (by decide))), fun h => ⟨getD_set_true (HX.out.c17 (lset h (by decide))).1, getD_set_true (HX.out.c17 (lset h (by decide))).2⟩, fun h => ⟨getD_set_true (HX.out.c18 (lset h (by decide))).1, getD_set_true (HX.out.c18 (lset h (by decide))).2⟩⟩⟩
            · have hJ := hoj
              simp at hJ
              have HX : Hid _ := hx
              have HI0 : Hid _ := hi0
              clear hx hall hoj hJ hi hi0
              simp only [List.setIfInBounds_toArray, List.set_cons_succ, List.set_cons_zero]
              refine wpOp_step (o := _) rfl fun K' hK => ?_
              rw [if_pos (by rfl)]
              have HK : Hid _ := hK
              clear hK
              go_wp2_with fail
              exact HK.out _ _ ⟨x4, x5, x35, x36, .int .i64 (kk : Int), x38, x39, x40, x41, x42, x43, x44, x45, x46, x47, x48, x49, x50, x51, by simp only [Act.put, List.setIfInBounds_toArray, List.set_cons_succ, List.set_cons_zero], ⟨HX.out.low, HX.out.srow, fun h => HX.out.f0 (lset h (by decide)), fun h => HX.out.f1 (lset h (by decide)), fun _ => rfl, fun h => HX.out.f3 (lset h (by decide)), fun h => HX.out.f4 (lset h (by decide)), fun h => HX.out.f5 (lset h (by decide)), fun h => HX.out.f8 (lset h (by decide)), fun h => HX.out.f9 (lset h (by decide)), fun h => HX.out.f10 (lset h (by decide)), fun h => HX.out.f11 (lset h (by decide)), fun h => HX.out.f12 (lset h (by decide)), fun h => HX.out.f13 (lset h (by decide)), fun h => HX.out.f14 (lset h (by decide)), fun h => HX.out.f6 (lset h (by decide)), fun h => HX.out.f15 (lset h (by decide)), fun h => HX.out.p4 (fun h' => h (getD_set_true h')), fun h => HX.out.p5 (fun h' => h (getD_set_true h')), fun h => HX.out.f7 (lset h (by decide)), fun h => HX.out.f16 (lset h (by decide)), fun h => HX.out.f17 (lset h (by decide)), fun h => HX.out.f18 (lset h (by decide)), fun h => HX.out.t4 (fun h' => h (getD_set_true h')), fun h => HX.out.t5 (fun h' => h (getD_set_true h')), fun h => getD_set_true (HX.out.c16 (lset h (by decide))), fun h => ⟨getD_set_true (HX.out.c17 (lset h (by decide))).1, getD_set_true (HX.out.c17 (lset h (by decide))).2⟩, fun h => ⟨getD_set_true (HX.out.c18 (lset h (by decide))).1, getD_set_true (HX.out.c18 (lset h (by decide))).2⟩⟩⟩
            · have hJ := hoj
              simp at hJ
              have l1 : listed.getD 1 false = true := hall ⟨1, .data⟩ (by subst hJ; simp) rfl
              have l2 : listed.getD 2 false = true := hall ⟨2, .data⟩ (by subst hJ; simp) rfl
              obtain rfl := hx.f1 l1
              obtain rfl := hx.f2 l2
              have HX : Hid _ := hx
              have HI0 : Hid _ := hi0
              clear hx hall hoj hJ hi hi0
              simp only [List.setIfInBounds_toArray, List.set_cons_succ, List.set_cons_zero]
              refine wpOp_step (o := _) rfl fun K' hK => ?_
              rw [if_pos (by rfl)]
              have HK : Hid _ := hK
              clear hK
              go_wp2_with fail
              exact HK.out _ _ ⟨x4, x5, x35, .slice (some ⟨(W.heap.size + 1 + 1), 0, none⟩) l.length l.length, .int .i64 (kk : Int), .pointer (some ⟨(W.heap.size + 1 + 1), kk * 7, none⟩), x39, x40, x41, x42, x43, x44, x45, x46, x47, x48, x49, x50, x51, by simp only [Act.put, List.setIfInBounds_toArray, List.set_cons_succ, List.set_cons_zero], ⟨HX.out.low, HX.out.srow, fun h => HX.out.f0 (lset h (by decide)), fun h => HX.out.f1 (lset h (by decide)), fun h => HX.out.f2 (lset h (by decide)), fun _ => rfl, fun h => HX.out.f4 (lset h (by decide)), fun h => HX.out.f5 (lset h (by decide)), fun h => HX.out.f8 (lset h (by decide)), fun h => HX.out.f9 (lset h (by decide)), fun h => HX.out.f10 (lset h (by decide)), fun h => HX.out.f11 (lset h (by decide)), fun h => HX.out.f12 (lset h (by decide)), fun h => HX.out.f13 (lset h (by decide)), fun h => HX.out.f14 (lset h (by decide)), fun h => HX.out.f6 (lset h (by decide)), fun h => HX.out.f15 (lset h (by decide)), fun h => HX.out.p4 (fun h' => h (getD_set_true h')), fun h => HX.out.p5 (fun h' => h (getD_set_true h')), fun h => HX.out.f7 (lset h (by decide)), fun h => HX.out.f16 (lset h (by decide)), fun h => HX.out.f17 (lset h (by decide)), fun h => HX.out.f18 (lset h (by decide)), fun h => HX.out.t4 (fun h' => h (getD_set_true h')), fun h => HX.out.t5 (fun h' => h (getD_set_true h')), fun h => getD_set_true (HX.out.c16 (lset h (by decide))), fun h => ⟨getD_set_true (HX.out.c17 (lset h (by decide))).1, getD_set_true (HX.out.c17 (lset h (by decide))).2⟩, fun h => ⟨getD_set_true (HX.out.c18 (lset h (by decide))).1, getD_set_true (HX.out.c18 (lset h (by decide))).2⟩⟩⟩
            · have hJ := hoj
              simp at hJ
              have l3 : listed.getD 3 false = true := hall ⟨3, .data⟩ (by subst hJ; simp) rfl
              obtain rfl := hx.f3 l3
              have HX : Hid _ := hx
              have HI0 : Hid _ := hi0
              clear hx hall hoj hJ hi hi0
              simp only [List.setIfInBounds_toArray, List.set_cons_succ, List.set_cons_zero]
              refine wpOp_step (o := _) rfl fun K' hK => ?_
              rw [if_pos (by rfl)]
              have HK : Hid _ := hK
              clear hK
              go_wp2_with fail
              exact HK.out _ _ ⟨x4, x5, x35, x36, x37, .pointer (some ⟨(W.heap.size + 1 + 1), kk * 7, none⟩), .pointer (some ⟨(W.heap.size + 1 + 1), kk * 7 + 2, none⟩), x40, x41, x42, x43, x44, x45, x46, x47, x48, x49, x50, x51, by simp only [Act.put, List.setIfInBounds_toArray, List.set_cons_succ, List.set_cons_zero], ⟨HX.out.low, HX.out.srow, fun h => HX.out.f0 (lset h (by decide)), fun h => HX.out.f1 (lset h (by decide)), fun h => HX.out.f2 (lset h (by decide)), fun h => HX.out.f3 (lset h (by decide)), fun _ => rfl, fun h => HX.out.f5 (lset h (by decide)), fun h => HX.out.f8 (lset h (by decide)), fun h => HX.out.f9 (lset h (by decide)), fun h => HX.out.f10 (lset h (by decide)), fun h => HX.out.f11 (lset h (by decide)), fun h => HX.out.f12 (lset h (by decide)), fun h => HX.out.f13 (lset h (by decide)), fun h => HX.out.f14 (lset h (by decide)), fun h => HX.out.f6 (lset h (by decide)), fun h => HX.out.f15 (lset h (by decide)), fun h => HX.out.p4 (fun h' => h (getD_set_true h')), fun h => HX.out.p5 (fun h' => h (getD_set_true h')), fun h => HX.out.f7 (lset h (by decide)), fun h => HX.out.f16 (lset h (by decide)), fun h => HX.out.f17 (lset h (by decide)), fun h => HX.out.f18 (lset h (by decide)), fun h => HX.out.t4 (fun h' => h (getD_set_true h')), fun h => HX.out.t5 (fun h' => h (getD_set_true h')), fun h => getD_set_true (HX.out.c16 (lset h (by decide))), fun h => ⟨getD_set_true (HX.out.c17 (lset h (by decide))).1, getD_set_true (HX.out.c17 (lset h (by decide))).2⟩, fun h => ⟨getD_set_true (HX.out.c18 (lset h (by decide))).1, getD_set_true (HX.out.c18 (lset h (by decide))).2⟩⟩⟩
            · have hJ := hoj
              simp at hJ
              have l4 : listed.getD 4 false = true := hall ⟨4, .data⟩ (by subst hJ; simp) rfl
              obtain rfl := hx.f4 l4
              have c2 := (World.cell?_of_block (w := W0) (a := ⟨(W.heap.size + 1 + 1), kk * 7 + 2, none⟩) (hx.low.block (W.heap.size + 1 + 1) (by omega))).trans HC2.out
              have c3 := (World.cell?_of_block (w := W0) (a := ⟨(W.heap.size + 1 + 1), kk * 7 + 2 + 1, none⟩) (hx.low.block (W.heap.size + 1 + 1) (by omega))).trans HC3.out
              have c4 := (World.cell?_of_block (w := W0) (a := ⟨(W.heap.size + 1 + 1), kk * 7 + 2 + 2, none⟩) (hx.low.block (W.heap.size + 1 + 1) (by omega))).trans HC4.out
              have HX : Hid _ := hx
              have HI0 : Hid _ := hi0
              clear hx hall hoj hJ hi hi0
              simp only [List.setIfInBounds_toArray, List.set_cons_succ, List.set_cons_zero]
              refine wpOp_step (o := _) rfl fun K' hK => ?_
              rw [if_pos (by rfl)]
              have HK : Hid _ := hK
              clear hK
              go_wp2_with fail
              exact HK.out _ _ ⟨x4, x5, x35, x36, x37, x38, .pointer (some ⟨(W.heap.size + 1 + 1), kk * 7 + 2, none⟩), vaV fx.f2, x41, x42, x43, x44, x45, x46, x47, x48, x49, x50, x51, by simp only [Act.put, List.setIfInBounds_toArray, List.set_cons_succ, List.set_cons_zero], ⟨HX.out.low, HX.out.srow, fun h => HX.out.f0 (lset h (by decide)), fun h => HX.out.f1 (lset h (by decide)), fun h => HX.out.f2 (lset h (by decide)), fun h => HX.out.f3 (lset h (by decide)), fun h => HX.out.f4 (lset h (by decide)), fun _ => rfl, fun h => HX.out.f8 (lset h (by decide)), fun h => HX.out.f9 (lset h (by decide)), fun h => HX.out.f10 (lset h (by decide)), fun h => HX.out.f11 (lset h (by decide)), fun h => HX.out.f12 (lset h (by decide)), fun h => HX.out.f13 (lset h (by decide)), fun h => HX.out.f14 (lset h (by decide)), fun h => HX.out.f6 (lset h (by decide)), fun h => HX.out.f15 (lset h (by decide)), fun h => HX.out.p4 (fun h' => h (getD_set_true h')), fun h => HX.out.p5 (fun h' => h (getD_set_true h')), fun h => HX.out.f7 (lset h (by decide)), fun h => HX.out.f16 (lset h (by decide)), fun h => HX.out.f17 (lset h (by decide)), fun h => HX.out.f18 (lset h (by decide)), fun h => HX.out.t4 (fun h' => h (getD_set_true h')), fun h => HX.out.t5 (fun h' => h (getD_set_true h')), fun h => getD_set_true (HX.out.c16 (lset h (by decide))), fun h => ⟨getD_set_true (HX.out.c17 (lset h (by decide))).1, getD_set_true (HX.out.c17 (lset h (by decide))).2⟩, fun h => ⟨getD_set_true (HX.out.c18 (lset h (by decide))).1, getD_set_true (HX.out.c18 (lset h (by decide))).2⟩⟩⟩
            · have hJ := hoj
              simp at hJ
              have l5 : listed.getD 5 false = true := hall ⟨5, .data⟩ (by subst hJ; simp) rfl
              obtain rfl := hx.f5 l5
              have HX : Hid _ := hx
              have HI0 : Hid _ := hi0
              clear hx hall hoj hJ hi hi0
              simp only [List.setIfInBounds_toArray, List.set_cons_succ, List.set_cons_zero]
              refine wpOp_step (o := _) rfl fun K' hK => ?_
              rw [if_pos (by rfl)]
              have HK : Hid _ := hK
              clear hK
              go_wp2_with fail
              have hg := alloc_grown WW (Obj.cells #[.int .i64 fx.f2.f0, .int .i64 fx.f2.f1, .string fx.f2.f2] 23)
              exact HK.out _ _ ⟨x4, x5, x35, x36, x37, x38, x39, vaV fx.f2, .slice (some ⟨WW.heap.size, 0, none⟩) 1 1, x42, x43, x44, x45, x46, x47, x48, x49, x50, x51, by simp only [Act.put, List.setIfInBounds_toArray, List.set_cons_succ, List.set_cons_zero], ⟨(grown_low HX.out.low hg HG.out (fun k hk => by cases hk)), (grown_srow HX.out.srow hg HSub.out HX.out.low.size (fun b hb => by simp)), fun h => HX.out.f0 (lset h (by decide)), fun h => HX.out.f1 (lset h (by decide)), fun h => HX.out.f2 (lset h (by decide)), fun h => HX.out.f3 (lset h (by decide)), fun h => HX.out.f4 (lset h (by decide)), fun h => HX.out.f5 (lset h (by decide)), fun h => HX.out.f8 (lset h (by decide)), fun h => HX.out.f9 (lset h (by decide)), fun h => HX.out.f10 (lset h (by decide)), fun h => HX.out.f11 (lset h (by decide)), fun h => HX.out.f12 (lset h (by decide)), fun h => HX.out.f13 (lset h (by decide)), fun h => HX.out.f14 (lset h (by decide)), fun _ => ⟨WW.heap.size, rfl, HX.out.low.size, alloc_at rfl⟩, fun h => (HX.out.f15 (lset h (by decide))).elim fun m' hm' => ⟨m', hm'.1, hm'.2.1, grown_at hm'.2.2 hg (by simp)⟩, fun h => grown_own (HX.out.p4 (fun h' => h (getD_set_true h'))) hg (fun k _ => by simp), fun h => grown_own (HX.out.p5 (fun h' => h (getD_set_true h'))) hg (fun k _ => by simp), fun h => ⟨grown_own (HX.out.f7 (lset h (by decide))).1 hg (fun k _ => by simp), (HX.out.f7 (lset h (by decide))).2⟩, fun h => ⟨grown_own (HX.out.f16 (lset h (by decide))).1 hg (fun k _ => by simp), (HX.out.f16 (lset h (by decide))).2⟩, fun h => HX.out.f17 (lset h (by decide)), fun h => HX.out.f18 (lset h (by decide)), fun h => HX.out.t4 (fun h' => h (getD_set_true h')), fun h => HX.out.t5 (fun h' => h (getD_set_true h')), fun h => getD_set_true (HX.out.c16 (lset h (by decide))), fun h => ⟨getD_set_true (HX.out.c17 (lset h (by decide))).1, getD_set_true (HX.out.c17 (lset h (by decide))).2⟩, fun h => ⟨getD_set_true (HX.out.c18 (lset h (by decide))).1, getD_set_true (HX.out.c18 (lset h (by decide))).2⟩⟩⟩
            · have hJ := hoj
              simp at hJ
              have l0 : listed.getD 0 false = true := hall ⟨0, .data⟩ (by subst hJ; simp) rfl
              have l6 : listed.getD 6 false = true := hall ⟨6, .data⟩ (by subst hJ; simp) rfl
              obtain rfl := (hx.f0 l0).symm
              obtain ⟨m, rfl, hmb, hm⟩ := hx.f6 l6
              have hp4 := hx.p4 (by rw [getD_both hi0]; decide)
              have HX : Hid _ := hx
              have HI0 : Hid _ := hi0
              clear hx hall hoj hJ hi hi0
              simp only [List.setIfInBounds_toArray, List.set_cons_succ, List.set_cons_zero]
              refine wpOp_step (o := _) rfl fun K' hK => ?_
              rw [if_pos (by rfl)]
              have HK : Hid _ := hK
              clear hK
              have hown := hp4
              refine op_append_value _ _ rfl ((W.heap.size + 1 + 1) + 1) u4 _ xs4 rfl hown ⟨m, 0, none⟩ 1 [.int .i64 fx.f2.f0, .int .i64 fx.f2.f1, .string fx.f2.f2] rfl rfl (cells_at hm) (by simp [Value.oneCell']) (by omega) (Nat.le_trans HG.out HX.out.low.size) ?_
              intro gg cap W1 how hg hor hgl
              exact HK.out _ _ ⟨x4, x5, u4, x36, x37, x38, x39, x40, .slice (some ⟨m, 0, none⟩) 1 1, .slice (some ⟨gg, 0, none⟩) ((consts ((l.take kk).map (Pu.fold ltB))).length + 1) cap, x43, x44, x45, x46, x47, x48, x49, x50, x51, by simp only [List.setIfInBounds_toArray, List.set_cons_succ, List.set_cons_zero]; rfl, ⟨(grown_low HX.out.low hg HG.out (fun k hk => (HV4.out k hk).1)), (grown_srow HX.out.srow hg HSub.out HX.out.low.size (fun b hb => D4.out b hb)), fun h => HX.out.f0 (lset h (by decide)), fun h => HX.out.f1 (lset h (by decide)), fun h => HX.out.f2 (lset h (by decide)), fun h => HX.out.f3 (lset h (by decide)), fun h => HX.out.f4 (lset h (by decide)), fun h => HX.out.f5 (lset h (by decide)), fun h => HX.out.f8 (lset h (by decide)), fun h => HX.out.f9 (lset h (by decide)), fun h => HX.out.f10 (lset h (by decide)), fun h => HX.out.f11 (lset h (by decide)), fun h => HX.out.f12 (lset h (by decide)), fun h => HX.out.f13 (lset h (by decide)), fun h => HX.out.f14 (lset h (by decide)), fun h => (HX.out.f6 (lset h (by decide))).elim fun m' hm' => ⟨m', hm'.1, hm'.2.1, grown_at hm'.2.2 hg (fun e => by have := (HV4.out _ e).2; have := hm'.2.1; omega)⟩, fun h => (HX.out.f15 (lset h (by decide))).elim fun m' hm' => ⟨m', hm'.1, hm'.2.1, grown_at hm'.2.2 hg (fun e => by have := (HV4.out _ e).2; have := hm'.2.1; omega)⟩, fun h => absurd (lset_self hsz (by decide)) h, fun h => grown_own (HX.out.p5 (fun h' => h (getD_set_true h'))) hg (fun k h5 h4 => D45.out k h4 h5), fun _ => ⟨how, hor.imp (fun e => by rw [e]; rfl) (fun e => ⟨gg, rfl, by have := HX.out.low.size; omega⟩)⟩, fun h => absurd (HX.out.c16 (lset h (by decide))) (by rw [getD_both HI0.out]; decide), fun h => absurd (HX.out.c16 (HX.out.c17 (lset h (by decide))).2) (by rw [getD_both HI0.out]; decide), fun h => HX.out.f18 (lset h (by decide)), fun h => HX.out.t4 (fun h' => h (getD_set_true h')), fun h => HX.out.t5 (fun h' => h (getD_set_true h')), fun h => getD_set_true (HX.out.c16 (lset h (by decide))), fun h => ⟨getD_set_true (HX.out.c17 (lset h (by decide))).1, getD_set_true (HX.out.c17 (lset h (by decide))).2⟩, fun h => ⟨getD_set_true (HX.out.c18 (lset h (by decide))).1, getD_set_true (HX.out.c18 (lset h (by decide))).2⟩⟩⟩
            · have hJ := hoj
              simp at hJ
              obtain rfl := (hx.t5 (fun h => absurd (hx.c18 h).1 (by rw [getD_both hi0]; decide))).symm
              have HX : Hid _ := hx
              have HI0 : Hid _ := hi0
              clear hx hall hoj hJ hi hi0
              simp only [List.setIfInBounds_toArray, List.set_cons_succ, List.set_cons_zero]
              refine wpOp_step (o := _) rfl fun K' hK => ?_
              rw [if_pos (by rfl)]
              have HK : Hid _ := hK
              clear hK
              go_wp2_with fail
              exact HK.out _ _ ⟨x4, u5, x35, x36, x37, x38, x39, x40, x41, x42, u5, x44, x45, x46, x47, x48, x49, x50, x51, by simp only [Act.put, List.setIfInBounds_toArray, List.set_cons_succ, List.set_cons_zero], ⟨HX.out.low, HX.out.srow, fun h => HX.out.f0 (lset h (by decide)), fun h => HX.out.f1 (lset h (by decide)), fun h => HX.out.f2 (lset h (by decide)), fun h => HX.out.f3 (lset h (by decide)), fun h => HX.out.f4 (lset h (by decide)), fun h => HX.out.f5 (lset h (by decide)), fun _ => rfl, fun h => HX.out.f9 (lset h (by decide)), fun h => HX.out.f10 (lset h (by decide)), fun h => HX.out.f11 (lset h (by decide)), fun h => HX.out.f12 (lset h (by decide)), fun h => HX.out.f13 (lset h (by decide)), fun h => HX.out.f14 (lset h (by decide)), fun h => HX.out.f6 (lset h (by decide)), fun h => HX.out.f15 (lset h (by decide)), fun h => HX.out.p4 (fun h' => h (getD_set_true h')), fun h => HX.out.p5 (fun h' => h (getD_set_true h')), fun h => HX.out.f7 (lset h (by decide)), fun h => HX.out.f16 (lset h (by decide)), fun h => HX.out.f17 (lset h (by decide)), fun h => HX.out.f18 (lset h (by decide)), fun h => HX.out.t4 (fun h' => h (getD_set_true h')), fun h => HX.out.t5 (fun h' => h (getD_set_true h')), fun h => getD_set_true (HX.out.c16 (lset h (by decide))), fun h => ⟨getD_set_true (HX.out.c17 (lset h (by decide))).1, getD_set_true (HX.out.c17 (lset h (by decide))).2⟩, fun h => ⟨getD_set_true (HX.out.c18 (lset h (by decide))).1, getD_set_true (HX.out.c18 (lset h (by decide))).2⟩⟩⟩
            · have hJ := hoj
              simp at hJ
              have HX : Hid _ := hx
              have HI0 : Hid _ := hi0
              clear hx hall hoj hJ hi hi0
              simp only [List.setIfInBounds_toArray, List.set_cons_succ, List.set_cons_zero]
              refine wpOp_step (o := _) rfl fun K' hK => ?_
              rw [if_pos (by rfl)]
              have HK : Hid _ := hK
              clear hK
              go_wp2_with fail
              exact HK.out _ _ ⟨x4, x5, x35, x36, x37, x38, x39, x40, x41, x42, x43, .slice (some ⟨(W.heap.size + 1 + 1), 0, none⟩) l.length l.length, x45, x46, x47, x48, x49, x50, x51, by simp only [Act.put, List.setIfInBounds_toArray, List.set_cons_succ, List.set_cons_zero], ⟨HX.out.low, HX.out.srow, fun h => HX.out.f0 (lset h (by decide)), fun h => HX.out.f1 (lset h (by decide)), fun h => HX.out.f2 (lset h (by decide)), fun h => HX.out.f3 (lset h (by decide)), fun h => HX.out.f4 (lset h (by decide)), fun h => HX.out.f5 (lset h (by decide)), fun h => HX.out.f8 (lset h (by decide)), fun _ => rfl, fun h => HX.out.f10 (lset h (by decide)), fun h => HX.out.f11 (lset h (by decide)), fun h => HX.out.f12 (lset h (by decide)), fun h => HX.out.f13 (lset h (by decide)), fun h => HX.out.f14 (lset h (by decide)), fun h => HX.out.f6 (lset h (by decide)), fun h => HX.out.f15 (lset h (by decide)), fun h => HX.out.p4 (fun h' => h (getD_set_true h')), fun h => HX.out.p5 (fun h' => h (getD_set_true h')), fun h => HX.out.f7 (lset h (by decide)), fun h => HX.out.f16 (lset h (by decide)), fun h => HX.out.f17 (lset h (by decide)), fun h => HX.out.f18 (lset h (by decide)), fun h => HX.out.t4 (fun h' => h (getD_set_true h')), fun h => HX.out.t5 (fun h' => h (getD_set_true h')), fun h => getD_set_true (HX.out.c16 (lset h (by decide))), fun h => ⟨getD_set_true (HX.out.c17 (lset h (by decide))).1, getD_set_true (HX.out.c17 (lset h (by decide))).2⟩, fun h => ⟨getD_set_true (HX.out.c18 (lset h (by decide))).1, getD_set_true (HX.out.c18 (lset h (by decide))).2⟩⟩⟩
            · have hJ := hoj
              simp at hJ
              have HX : Hid _ := hx
              have HI0 : Hid _ := hi0
              clear hx hall hoj hJ hi hi0
              simp only [List.setIfInBounds_toArray, List.set_cons_succ, List.set_cons_zero]
              refine wpOp_step (o := _) rfl fun K' hK => ?_
              rw [if_pos (by rfl)]
              have HK : Hid _ := hK
              clear hK
              go_wp2_with fail
              exact HK.out _ _ ⟨x4, x5, x35, x36, x37, x38, x39, x40, x41, x42, x43, x44, .int .i64 (kk : Int), x46, x47, x48, x49, x50, x51, by simp only [Act.put, List.setIfInBounds_toArray, List.set_cons_succ, List.set_cons_zero], ⟨HX.out.low, HX.out.srow, fun h => HX.out.f0 (lset h (by decide)), fun h => HX.out.f1 (lset h (by decide)), fun h => HX.out.f2 (lset h (by decide)), fun h => HX.out.f3 (lset h (by decide)), fun h => HX.out.f4 (lset h (by decide)), fun h => HX.out.f5 (lset h (by decide)), fun h => HX.out.f8 (lset h (by decide)), fun h => HX.out.f9 (lset h (by decide)), fun _ => rfl, fun h => HX.out.f11 (lset h (by decide)), fun h => HX.out.f12 (lset h (by decide)), fun h => HX.out.f13 (lset h (by decide)), fun h => HX.out.f14 (lset h (by decide)), fun h => HX.out.f6 (lset h (by decide)), fun h => HX.out.f15 (lset h (by decide)), fun h => HX.out.p4 (fun h' => h (getD_set_true h')), fun h => HX.out.p5 (fun h' => h (getD_set_true h')), fun h => HX.out.f7 (lset h (by decide)), fun h => HX.out.f16 (lset h (by decide)), fun h => HX.out.f17 (lset h (by decide)), fun h => HX.out.f18 (lset h (by decide)), fun h => HX.out.t4 (fun h' => h (getD_set_true h')), fun h => HX.out.t5 (fun h' => h (getD_set_true h')), fun h => getD_set_true (HX.out.c16 (lset h (by decide))), fun h => ⟨getD_set_true (HX.out.c17 (lset h (by decide))).1, getD_set_true (HX.out.c17 (lset h (by decide))).2⟩, fun h => ⟨getD_set_true (HX.out.c18 (lset h (by decide))).1, getD_set_true (HX.out.c18 (lset h (by decide))).2⟩⟩⟩
            · have hJ := hoj
              simp at hJ
              have l9 : listed.getD 9 false = true := hall ⟨9, .data⟩ (by subst hJ; simp) rfl
              have l10 : listed.getD 10 false = true := hall ⟨10, .data⟩ (by subst hJ; simp) rfl
              obtain rfl := hx.f9 l9
              obtain rfl := hx.f10 l10
              have HX : Hid _ := hx
              have HI0 : Hid _ := hi0
              clear hx hall hoj hJ hi hi0
              simp only [List.setIfInBounds_toArray, List.set_cons_succ, List.set_cons_zero]
              refine wpOp_step (o := _) rfl fun K' hK => ?_
              rw [if_pos (by rfl)]
              have HK : Hid _ := hK
              clear hK
              go_wp2_with fail
              exact HK.out _ _ ⟨x4, x5, x35, x36, x37, x38, x39, x40, x41, x42, x43, .slice (some ⟨(W.heap.size + 1 + 1), 0, none⟩) l.length l.length, .int .i64 (kk : Int), .pointer (some ⟨(W.heap.size + 1 + 1), kk * 7, none⟩), x47, x48, x49, x50, x51, by simp only [Act.put, List.setIfInBounds_toArray, List.set_cons_succ, List.set_cons_zero], ⟨HX.out.low, HX.out.srow, fun h => HX.out.f0 (lset h (by decide)), fun h => HX.out.f1 (lset h (by decide)), fun h => HX.out.f2 (lset h (by decide)), fun h => HX.out.f3 (lset h (by decide)), fun h => HX.out.f4 (lset h (by decide)), fun h => HX.out.f5 (lset h (by decide)), fun h => HX.out.f8 (lset h (by decide)), fun h => HX.out.f9 (lset h (by decide)), fun h => HX.out.f10 (lset h (by decide)), fun _ => rfl, fun h => HX.out.f12 (lset h (by decide)), fun h => HX.out.f13 (lset h (by decide)), fun h => HX.out.f14 (lset h (by decide)), fun h => HX.out.f6 (lset h (by decide)), fun h => HX.out.f15 (lset h (by decide)), fun h => HX.out.p4 (fun h' => h (getD_set_true h')), fun h => HX.out.p5 (fun h' => h (getD_set_true h')), fun h => HX.out.f7 (lset h (by decide)), fun h => HX.out.f16 (lset h (by decide)), fun h => HX.out.f17 (lset h (by decide)), fun h => HX.out.f18 (lset h (by decide)), fun h => HX.out.t4 (fun h' => h (getD_set_true h')), fun h => HX.out.t5 (fun h' => h (getD_set_true h')), fun h => getD_set_true (HX.out.c16 (lset h (by decide))), fun h => ⟨getD_set_true (HX.out.c17 (lset h (by decide))).1, getD_set_true (HX.out.c17 (lset h (by decide))).2⟩, fun h => ⟨getD_set_true (HX.out.c18 (lset h (by decide))).1, getD_set_true (HX.out.c18 (lset h (by decide))).2⟩⟩⟩
            · have hJ := hoj
              simp at hJ
              have l11 : listed.getD 11 false = true := hall ⟨11, .data⟩ (by subst hJ; simp) rfl
              obtain rfl := hx.f11 l11
              have HX : Hid _ := hx
              have HI0 : Hid _ := hi0
              clear hx hall hoj hJ hi hi0
              simp only [List.setIfInBounds_toArray, List.set_cons_succ, List.set_cons_zero]
              refine wpOp_step (o := _) rfl fun K' hK => ?_
              rw [if_pos (by rfl)]
              have HK : Hid _ := hK
              clear hK
              go_wp2_with fail
              exact HK.out _ _ ⟨x4, x5, x35, x36, x37, x38, x39, x40, x41, x42, x43, x44, x45, .pointer (some ⟨(W.heap.size + 1 + 1), kk * 7, none⟩), .pointer (some ⟨(W.heap.size + 1 + 1), kk * 7 + 2, none⟩), x48, x49, x50, x51, by simp only [Act.put, List.setIfInBounds_toArray, List.set_cons_succ, List.set_cons_zero], ⟨HX.out.low, HX.out.srow, fun h => HX.out.f0 (lset h (by decide)), fun h => HX.out.f1 (lset h (by decide)), fun h => HX.out.f2 (lset h (by decide)), fun h => HX.out.f3 (lset h (by decide)), fun h => HX.out.f4 (lset h (by decide)), fun h => HX.out.f5 (lset h (by decide)), fun h => HX.out.f8 (lset h (by decide)), fun h => HX.out.f9 (lset h (by decide)), fun h => HX.out.f10 (lset h (by decide)), fun h => HX.out.f11 (lset h (by decide)), fun _ => rfl, fun h => HX.out.f13 (lset h (by decide)), fun h => HX.out.f14 (lset h (by decide)), fun h => HX.out.f6 (lset h (by decide)), fun h => HX.out.f15 (lset h (by decide)), fun h => HX.out.p4 (fun h' => h (getD_set_true h')), fun h => HX.out.p5 (fun h' => h (getD_set_true h')), fun h => HX.out.f7 (lset h (by decide)), fun h => HX.out.f16 (lset h (by decide)), fun h => HX.out.f17 (lset h (by decide)), fun h => HX.out.f18 (lset h (by decide)), fun h => HX.out.t4 (fun h' => h (getD_set_true h')), fun h => HX.out.t5 (fun h' => h (getD_set_true h')), fun h => getD_set_true (HX.out.c16 (lset h (by decide))), fun h => ⟨getD_set_true (HX.out.c17 (lset h (by decide))).1, getD_set_true (HX.out.c17 (lset h (by decide))).2⟩, fun h => ⟨getD_set_true (HX.out.c18 (lset h (by decide))).1, getD_set_true (HX.out.c18 (lset h (by decide))).2⟩⟩⟩
            · have hJ := hoj
              simp at hJ
              have l12 : listed.getD 12 false = true := hall ⟨12, .data⟩ (by subst hJ; simp) rfl
              obtain rfl := hx.f12 l12
              have HX : Hid _ := hx
              have HI0 : Hid _ := hi0
              clear hx hall hoj hJ hi hi0
              simp only [List.setIfInBounds_toArray, List.set_cons_succ, List.set_cons_zero]
              refine wpOp_step (o := _) rfl fun K' hK => ?_
              rw [if_pos (by rfl)]
              have HK : Hid _ := hK
              clear hK
              go_wp2_with fail
              exact HK.out _ _ ⟨x4, x5, x35, x36, x37, x38, x39, x40, x41, x42, x43, x44, x45, x46, .pointer (some ⟨(W.heap.size + 1 + 1), kk * 7 + 2, none⟩), .pointer (some ⟨(W.heap.size + 1 + 1), kk * 7 + 2, none⟩), x49, x50, x51, by simp only [Act.put, List.setIfInBounds_toArray, List.set_cons_succ, List.set_cons_zero], ⟨HX.out.low, HX.out.srow, fun h => HX.out.f0 (lset h (by decide)), fun h => HX.out.f1 (lset h (by decide)), fun h => HX.out.f2 (lset h (by decide)), fun h => HX.out.f3 (lset h (by decide)), fun h => HX.out.f4 (lset h (by decide)), fun h => HX.out.f5 (lset h (by decide)), fun h => HX.out.f8 (lset h (by decide)), fun h => HX.out.f9 (lset h (by decide)), fun h => HX.out.f10 (lset h (by decide)), fun h => HX.out.f11 (lset h (by decide)), fun h => HX.out.f12 (lset h (by decide)), fun _ => rfl, fun h => HX.out.f14 (lset h (by decide)), fun h => HX.out.f6 (lset h (by decide)), fun h => HX.out.f15 (lset h (by decide)), fun h => HX.out.p4 (fun h' => h (getD_set_true h')), fun h => HX.out.p5 (fun h' => h (getD_set_true h')), fun h => HX.out.f7 (lset h (by decide)), fun h => HX.out.f16 (lset h (by decide)), fun h => HX.out.f17 (lset h (by decide)), fun h => HX.out.f18 (lset h (by decide)), fun h => HX.out.t4 (fun h' => h (getD_set_true h')), fun h => HX.out.t5 (fun h' => h (getD_set_true h')), fun h => getD_set_true (HX.out.c16 (lset h (by decide))), fun h => ⟨getD_set_true (HX.out.c17 (lset h (by decide))).1, getD_set_true (HX.out.c17 (lset h (by decide))).2⟩, fun h => ⟨getD_set_true (HX.out.c18 (lset h (by decide))).1, getD_set_true (HX.out.c18 (lset h (by decide))).2⟩⟩⟩
            · have hJ := hoj
              simp at hJ
              have l13 : listed.getD 13 false = true := hall ⟨13, .data⟩ (by subst hJ; simp) rfl
              obtain rfl := hx.f13 l13
              have c2 := (World.cell?_of_block (w := W0) (a := ⟨(W.heap.size + 1 + 1), kk * 7 + 2, none⟩) (hx.low.block (W.heap.size + 1 + 1) (by omega))).trans HC2.out
              have HX : Hid _ := hx
              have HI0 : Hid _ := hi0
              clear hx hall hoj hJ hi hi0
              simp only [List.setIfInBounds_toArray, List.set_cons_succ, List.set_cons_zero]
              refine wpOp_step (o := _) rfl fun K' hK => ?_
              rw [if_pos (by rfl)]
              have HK : Hid _ := hK
              clear hK
              go_wp2_with fail
              exact HK.out _ _ ⟨x4, x5, x35, x36, x37, x38, x39, x40, x41, x42, x43, x44, x45, x46, x47, .pointer (some ⟨(W.heap.size + 1 + 1), kk * 7 + 2, none⟩), .int .i64 fx.f2.f0, x50, x51, by simp only [Act.put, List.setIfInBounds_toArray, List.set_cons_succ, List.set_cons_zero], ⟨HX.out.low, HX.out.srow, fun h => HX.out.f0 (lset h (by decide)), fun h => HX.out.f1 (lset h (by decide)), fun h => HX.out.f2 (lset h (by decide)), fun h => HX.out.f3 (lset h (by decide)), fun h => HX.out.f4 (lset h (by decide)), fun h => HX.out.f5 (lset h (by decide)), fun h => HX.out.f8 (lset h (by decide)), fun h => HX.out.f9 (lset h (by decide)), fun h => HX.out.f10 (lset h (by decide)), fun h => HX.out.f11 (lset h (by decide)), fun h => HX.out.f12 (lset h (by decide)), fun h => HX.out.f13 (lset h (by decide)), fun _ => rfl, fun h => HX.out.f6 (lset h (by decide)), fun h => HX.out.f15 (lset h (by decide)), fun h => HX.out.p4 (fun h' => h (getD_set_true h')), fun h => HX.out.p5 (fun h' => h (getD_set_true h')), fun h => HX.out.f7 (lset h (by decide)), fun h => HX.out.f16 (lset h (by decide)), fun h => HX.out.f17 (lset h (by decide)), fun h => HX.out.f18 (lset h (by decide)), fun h => HX.out.t4 (fun h' => h (getD_set_true h')), fun h => HX.out.t5 (fun h' => h (getD_set_true h')), fun h => getD_set_true (HX.out.c16 (lset h (by decide))), fun h => ⟨getD_set_true (HX.out.c17 (lset h (by decide))).1, getD_set_true (HX.out.c17 (lset h (by decide))).2⟩, fun h => ⟨getD_set_true (HX.out.c18 (lset h (by decide))).1, getD_set_true (HX.out.c18 (lset h (by decide))).2⟩⟩⟩
            · have hJ := hoj
              simp at hJ
              have l14 : listed.getD 14 false = true := hall ⟨14, .data⟩ (by subst hJ; simp) rfl
              obtain rfl := hx.f14 l14
              have HX : Hid _ := hx
              have HI0 : Hid _ := hi0
              clear hx hall hoj hJ hi hi0
              simp only [List.setIfInBounds_toArray, List.set_cons_succ, List.set_cons_zero]
              refine wpOp_step (o := _) rfl fun K' hK => ?_
              rw [if_pos (by rfl)]
              have HK : Hid _ := hK
              clear hK
              go_wp2_with fail
              have hg := alloc_grown WW (Obj.cells #[.int .i64 fx.f2.f0] 3)
              exact HK.out _ _ ⟨x4, x5, x35, x36, x37, x38, x39, x40, x41, x42, x43, x44, x45, x46, x47, x48, .int .i64 fx.f2.f0, .slice (some ⟨WW.heap.size, 0, none⟩) 1 1, x51, by simp only [Act.put, List.setIfInBounds_toArray, List.set_cons_succ, List.set_cons_zero], ⟨(grown_low HX.out.low hg HG.out (fun k hk => by cases hk)), (grown_srow HX.out.srow hg HSub.out HX.out.low.size (fun b hb => by simp)), fun h => HX.out.f0 (lset h (by decide)), fun h => HX.out.f1 (lset h (by decide)), fun h => HX.out.f2 (lset h (by decide)), fun h => HX.out.f3 (lset h (by decide)), fun h => HX.out.f4 (lset h (by decide)), fun h => HX.out.f5 (lset h (by decide)), fun h => HX.out.f8 (lset h (by decide)), fun h => HX.out.f9 (lset h (by decide)), fun h => HX.out.f10 (lset h (by decide)), fun h => HX.out.f11 (lset h (by decide)), fun h => HX.out.f12 (lset h (by decide)), fun h => HX.out.f13 (lset h (by decide)), fun h => HX.out.f14 (lset h (by decide)), fun h => (HX.out.f6 (lset h (by decide))).elim fun m' hm' => ⟨m', hm'.1, hm'.2.1, grown_at hm'.2.2 hg (by simp)⟩, fun _ => ⟨WW.heap.size, rfl, HX.out.low.size, alloc_at rfl⟩, fun h => grown_own (HX.out.p4 (fun h' => h (getD_set_true h'))) hg (fun k _ => by simp), fun h => grown_own (HX.out.p5 (fun h' => h (getD_set_true h'))) hg (fun k _ => by simp), fun h => ⟨grown_own (HX.out.f7 (lset h (by decide))).1 hg (fun k _ => by simp), (HX.out.f7 (lset h (by decide))).2⟩, fun h => ⟨grown_own (HX.out.f16 (lset h (by decide))).1 hg (fun k _ => by simp), (HX.out.f16 (lset h (by decide))).2⟩, fun h => HX.out.f17 (lset h (by decide)), fun h => HX.out.f18 (lset h (by decide)), fun h => HX.out.t4 (fun h' => h (getD_set_true h')), fun h => HX.out.t5 (fun h' => h (getD_set_true h')), fun h => getD_set_true (HX.out.c16 (lset h (by decide))), fun h => ⟨getD_set_true (HX.out.c17 (lset h (by decide))).1, getD_set_true (HX.out.c17 (lset h (by decide))).2⟩, fun h => ⟨getD_set_true (HX.out.c18 (lset h (by decide))).1, getD_set_true (HX.out.c18 (lset h (by decide))).2⟩⟩⟩
            · have hJ := hoj
              simp at hJ
              have l8 : listed.getD 8 false = true := hall ⟨8, .data⟩ (by subst hJ; simp) rfl
              have l15 : listed.getD 15 false = true := hall ⟨15, .data⟩ (by subst hJ; simp) rfl
              have l7 : listed.getD 7 false = true := hall ⟨7, .chain⟩ (by subst hJ; simp) rfl
              obtain rfl := (hx.f8 l8).symm
              obtain ⟨m, rfl, hmb, hm⟩ := hx.f15 l15
              have hp5 := hx.p5 (by rw [getD_both hi0]; decide)
              have ne45 : Hid (∀ k, x42.ownBlock = some k → u5.ownBlock ≠ some k) := fun k hk e => (hx.f7 l7).2.elim (fun h => D45.out k (h ▸ hk) e) (fun ⟨b, h1, h2⟩ => by have := (HV5.out k e).2; rw [h1] at hk; injection hk with hk; omega)
              have HX : Hid _ := hx
              have HI0 : Hid _ := hi0
              clear hx hall hoj hJ hi hi0
              simp only [List.setIfInBounds_toArray, List.set_cons_succ, List.set_cons_zero]
              refine wpOp_step (o := _) rfl fun K' hK => ?_
              rw [if_pos (by rfl)]
              have HK : Hid _ := hK
              clear hK
              have hown := hp5
              refine op_append_int _ _ rfl ((W.heap.size + 1 + 1) + 1) u5 _ xs5 rfl hown ⟨m, 0, none⟩ 1 [.int .i64 fx.f2.f0] rfl rfl (cells_at hm) (by simp [Value.oneCell']) (by omega) (Nat.le_trans HG.out HX.out.low.size) ?_
              intro gg cap W1 how hg hor hgl
              exact HK.out _ _ ⟨x4, x5, x35, x36, x37, x38, x39, x40, x41, x42, u5, x44, x45, x46, x47, x48, x49, .slice (some ⟨m, 0, none⟩) 1 1, .slice (some ⟨gg, 0, none⟩) ((consts ((l.take kk).map (Pu.fold ltB))).length + 1) cap, by simp only [List.setIfInBounds_toArray, List.set_cons_succ, List.set_cons_zero]; rfl, ⟨(grown_low HX.out.low hg HG.out (fun k hk => (HV5.out k hk).1)), (grown_srow HX.out.srow hg HSub.out HX.out.low.size (fun b hb => D5.out b hb)), fun h => HX.out.f0 (lset h (by decide)), fun h => HX.out.f1 (lset h (by decide)), fun h => HX.out.f2 (lset h (by decide)), fun h => HX.out.f3 (lset h (by decide)), fun h => HX.out.f4 (lset h (by decide)), fun h => HX.out.f5 (lset h (by decide)), fun h => HX.out.f8 (lset h (by decide)), fun h => HX.out.f9 (lset h (by decide)), fun h => HX.out.f10 (lset h (by decide)), fun h => HX.out.f11 (lset h (by decide)), fun h => HX.out.f12 (lset h (by decide)), fun h => HX.out.f13 (lset h (by decide)), fun h => HX.out.f14 (lset h (by decide)), fun h => (HX.out.f6 (lset h (by decide))).elim fun m' hm' => ⟨m', hm'.1, hm'.2.1, grown_at hm'.2.2 hg (fun e => by have := (HV5.out _ e).2; have := hm'.2.1; omega)⟩, fun h => (HX.out.f15 (lset h (by decide))).elim fun m' hm' => ⟨m', hm'.1, hm'.2.1, grown_at hm'.2.2 hg (fun e => by have := (HV5.out _ e).2; have := hm'.2.1; omega)⟩, fun h => absurd (getD_set_true l7) h, fun h => absurd (lset_self hsz (by decide)) h, fun h => ⟨grown_own (HX.out.f7 (lset h (by decide))).1 hg (fun k hk e => ne45.out k hk e), (HX.out.f7 (lset h (by decide))).2⟩, fun _ => ⟨how, hor.imp (fun e => by rw [e]; rfl) (fun e => ⟨gg, rfl, by have := HX.out.low.size; omega⟩), fun b hb e => hor.elim (fun h5 => ne45.out b hb (h5.trans (congrArg some (Option.some.inj e)))) (fun h5 => by have h6 := ((HX.out.f7 l7).1.lt b hb).2; have h7 : gg = b := Option.some.inj e; omega)⟩, fun h => HX.out.f17 (lset h (by decide)), fun h => absurd (HX.out.c18 (lset h (by decide))).2 (by rw [getD_both HI0.out]; decide), fun h => HX.out.t4 (fun h' => h (getD_set_true h')), fun h => HX.out.t5 (fun h' => h (getD_set_true h')), fun _ => getD_set_true l7, fun h => ⟨getD_set_true (HX.out.c17 (lset h (by decide))).1, getD_set_true (HX.out.c17 (lset h (by decide))).2⟩, fun h => ⟨getD_set_true (HX.out.c18 (lset h (by decide))).1, getD_set_true (HX.out.c18 (lset h (by decide))).2⟩⟩⟩
            · have hJ := hoj
              simp at hJ
              have l7 : listed.getD 7 false = true := hall ⟨7, .data⟩ (by subst hJ; simp) rfl
              have l0 : listed.getD 0 false = true := hall ⟨0, .phase⟩ (by subst hJ; simp) rfl
              have l16 : listed.getD 16 false = true := hall ⟨16, .chain⟩ (by subst hJ; simp) rfl
              obtain rfl := (hx.f0 l0).symm
              have HX : Hid _ := hx
              have HI0 : Hid _ := hi0
              clear hx hall hoj hJ hi hi0
              simp only [List.setIfInBounds_toArray, List.set_cons_succ, List.set_cons_zero]
              refine wpOp_step (o := _) rfl fun K' hK => ?_
              rw [if_pos (by rfl)]
              have HK : Hid _ := hK
              clear hK
              go_wp2_with fail
              exact HK.out _ _ ⟨x42, x5, u4, x36, x37, x38, x39, x40, x41, x42, x43, x44, x45, x46, x47, x48, x49, x50, x51, by simp only [Act.put, List.setIfInBounds_toArray, List.set_cons_succ, List.set_cons_zero], ⟨HX.out.low, HX.out.srow, fun h => HX.out.f0 (lset h (by decide)), fun h => HX.out.f1 (lset h (by decide)), fun h => HX.out.f2 (lset h (by decide)), fun h => HX.out.f3 (lset h (by decide)), fun h => HX.out.f4 (lset h (by decide)), fun h => HX.out.f5 (lset h (by decide)), fun h => HX.out.f8 (lset h (by decide)), fun h => HX.out.f9 (lset h (by decide)), fun h => HX.out.f10 (lset h (by decide)), fun h => HX.out.f11 (lset h (by decide)), fun h => HX.out.f12 (lset h (by decide)), fun h => HX.out.f13 (lset h (by decide)), fun h => HX.out.f14 (lset h (by decide)), fun h => HX.out.f6 (lset h (by decide)), fun h => HX.out.f15 (lset h (by decide)), fun h => HX.out.p4 (fun h' => h (getD_set_true h')), fun h => HX.out.p5 (fun h' => h (getD_set_true h')), fun h => HX.out.f7 (lset h (by decide)), fun h => HX.out.f16 (lset h (by decide)), fun _ => rfl, fun h => HX.out.f18 (lset h (by decide)), fun h => absurd (lset_self hsz (by decide)) h, fun h => HX.out.t5 (fun h' => h (getD_set_true h')), fun h => getD_set_true (HX.out.c16 (lset h (by decide))), fun _ => ⟨getD_set_true l0, getD_set_true l16⟩, fun h => ⟨getD_set_true (HX.out.c18 (lset h (by decide))).1, getD_set_true (HX.out.c18 (lset h (by decide))).2⟩⟩⟩
            · have hJ := hoj
              simp at hJ
              have l16 : listed.getD 16 false = true := hall ⟨16, .data⟩ (by subst hJ; simp) rfl
              have l17 : listed.getD 17 false = true := hall ⟨17, .chain⟩ (by subst hJ; simp) rfl
              have l8 : listed.getD 8 false = true := hall ⟨8, .phase⟩ (by subst hJ; simp) rfl
              have HX : Hid _ := hx
              have HI0 : Hid _ := hi0
              clear hx hall hoj hJ hi hi0
              simp only [List.setIfInBounds_toArray, List.set_cons_succ, List.set_cons_zero]
              refine wpOp_step (o := _) rfl fun K' hK => ?_
              rw [if_pos (by rfl)]
              have HK : Hid _ := hK
              clear hK
              go_wp2_with fail
              exact HK.out _ _ ⟨x4, x51, x35, x36, x37, x38, x39, x40, x41, x42, x43, x44, x45, x46, x47, x48, x49, x50, x51, by simp only [Act.put, List.setIfInBounds_toArray, List.set_cons_succ, List.set_cons_zero], ⟨HX.out.low, HX.out.srow, fun h => HX.out.f0 (lset h (by decide)), fun h => HX.out.f1 (lset h (by decide)), fun h => HX.out.f2 (lset h (by decide)), fun h => HX.out.f3 (lset h (by decide)), fun h => HX.out.f4 (lset h (by decide)), fun h => HX.out.f5 (lset h (by decide)), fun h => HX.out.f8 (lset h (by decide)), fun h => HX.out.f9 (lset h (by decide)), fun h => HX.out.f10 (lset h (by decide)), fun h => HX.out.f11 (lset h (by decide)), fun h => HX.out.f12 (lset h (by decide)), fun h => HX.out.f13 (lset h (by decide)), fun h => HX.out.f14 (lset h (by decide)), fun h => HX.out.f6 (lset h (by decide)), fun h => HX.out.f15 (lset h (by decide)), fun h => HX.out.p4 (fun h' => h (getD_set_true h')), fun h => HX.out.p5 (fun h' => h (getD_set_true h')), fun h => HX.out.f7 (lset h (by decide)), fun h => HX.out.f16 (lset h (by decide)), fun h => HX.out.f17 (lset h (by decide)), fun _ => rfl, fun h => HX.out.t4 (fun h' => h (getD_set_true h')), fun h => absurd (lset_self hsz (by decide)) h, fun h => getD_set_true (HX.out.c16 (lset h (by decide))), fun h => ⟨getD_set_true (HX.out.c17 (lset h (by decide))).1, getD_set_true (HX.out.c17 (lset h (by decide))).2⟩, fun _ => ⟨getD_set_true l8, getD_set_true l16⟩⟩⟩
          · rintro a' WW ⟨x4, x5, x35, x36, x37, x38, x39, x40, x41, x42, x43, x44, x45, x46, x47, x48, x49, x50, x51, rfl, hx⟩
            have ht : ∀ j, j < 19 → (Array.replicate 19 true).getD j false = true := fun j hj => by simp [hj]
            have hl1 := hx.low
            have hs1 := hx.srow
            have h7 := hx.f7 (ht 7 (by decide))
            have h16 := hx.f16 (ht 16 (by decide))
            have h17 := hx.f17 (ht 17 (by decide))
            have h18 := hx.f18 (ht 18 (by decide))
            clear hx ht
            subst h17
            subst h18
            simp only [List.setIfInBounds_toArray, List.set_cons_succ, List.set_cons_zero]
            have HFN : Hid _ := FoldI.app HFS.out hl1 hs1 R4.out R5.out h7 h16
            have HBN : Hid (Below W.heap.size W WW) := HBW.out.trans (hl1.mono (by omega))
            have HKN : Hid _ := (hl1.block W.heap.size (by omega)).trans HKW.out
            have HRN : Hid _ := (hl1.block (W.heap.size + 1) (by omega)).trans HRW.out
            clear hl1 hs1 h7 h16
            go_wp2_with fail
            go_roundg (l.length - (kk + 1))
            case measure => omega
            case rel =>
              refine ⟨kk + 1, by omega, by omega, by go_num, HBN.out, HKN.out, HRN.out, (fun b => S b ∨ (wr.heap.size ≤ b ∧ b < w1.heap.size)), ?_⟩
              rw [HTK.out, consts_snoc, if_pos HC.out]; exact HFN.out
        · have hcst' : (fx.f0 == 0) = false := by simp [hcst]
          have HC : Hid _ := hcst
          clear hcst
          go_wp2_with fail
          go_roundg (l.length - (kk + 1))
          case measure => omega
          case rel =>
            refine ⟨kk + 1, by omega, by omega, by go_num, chain7_below (bt HB.out HB1.out) (by omega), ?_, ?_, (fun b => S b ∨ (wr.heap.size ≤ b ∧ b < w1.heap.size)), ?_⟩
            · exact (chain7_other (by omega)).trans (bk HB1.out HK.out)
            · exact (chain7_other (by omega)).trans (bk HB1.out HR.out)
            · rw [HTK.out, consts_snoc, if_neg HC.out, List.append_nil]; exact HFS.out
      · have hkl : kk = l.length := by omega
        subst hkl
        have HF' : Hid (FoldI W wr B0 (W.heap.size + 1 + 1) l.length (l.map (Pu.fold ltB)) (consts (l.map (Pu.fold ltB))) u4 u5 S) := by have := HF.out; rwa [List.take_length] at this
        have HRu : Hid (Pu.fold ltB ⟨k0, 0, vz, n, l⟩ = Pu.rule ltB 2 0 vz n (l.map (Pu.fold ltB))) := by rw [Hid, H2.out, fold_op, folds_map]
        have hll : (l.map (Pu.fold ltB)).length = l.length := List.length_map _
        have HOK' : Hid (∀ x ∈ l.map (Pu.fold ltB), okT x = true) := by
          intro x hx; obtain ⟨y, hy, rfl⟩ := List.mem_map.1 hx; exact (fold_ok ltB y (HOK.out y hy)).1
        obtain ⟨xs4, o4, r4⟩ := HF'.out.o4
        obtain ⟨xs5, o5, r5⟩ := HF'.out.o5
        obtain ⟨A4, c4, rfl, hc4, hI4⟩ := own_row (l := consts (l.map (Pu.fold ltB))) o4 r4
        obtain ⟨A5, c5, rfl, hc5, hI5⟩ := own_row (l := (consts (l.map (Pu.fold ltB))).map (·.f0)) (by rw [List.length_map]; exact o5) r5
        have HRow : Hid (ScRow (fun b => b = W.heap.size + 1 + 1 ∨ S b) wr (some ⟨W.heap.size + 1 + 1, 0, none⟩) (l.map (Pu.fold ltB))) := HF'.out.fill.done (by omega)
        have HSub : Hid (∀ b, (b = W.heap.size + 1 + 1 ∨ S b) → (b < B0 ∨ W.heap.size + 1 + 1 ≤ b) ∧ b < wr.heap.size) := fun b hb => hb.elim (fun e => by have := FoldI.glt HF'.out; omega) fun hb => ⟨(HF'.out.sub b hb).1.imp id (fun h => by omega), (HF'.out.sub b hb).2⟩
        have HI4 : Hid _ := hI4
        have HI5 : Hid _ := hI5
        have hgl0 := FoldI.glt HF'.out
        clear o4 o5 r4 r5 hI4 hI5
        generalize l.map (Pu.fold ltB) = ls at *
        have hz6 := HK.out
        have zc0 := blk_cell hz6 0 rfl
        have zf0 := blk_free hz6 0
        have zc1 := blk_cell hz6 1 rfl
        have zf1 := blk_free hz6 1
        have zc2 := blk_cell hz6 2 rfl
        have zf2 := blk_free hz6 2
        have zc3 := blk_cell hz6 3 rfl
        have zf3 := blk_free hz6 3
        have zc4 := blk_cell hz6 4 rfl
        have zf4 := blk_free hz6 4
        have zc5 := blk_cell hz6 5 rfl
        have zf5 := blk_free hz6 5
        have zc6 := blk_cell hz6 6 rfl
        have zf6 := blk_free hz6 6
        go_wp2_with fail
        have H8 : Hid ((wr.setCell ⟨W.heap.size, 6, none⟩ (.slice (some ⟨W.heap.size + 1 + 1, 0, none⟩) l.length l.length)).heap[W.heap.size]? = some (Obj.cells #[.int .i64 k0, .int .i64 0, .int .i64 vz.f0, .int .i64 vz.f1, .string vz.f2, .int .i64 (n : Int), .slice (some ⟨W.heap.size + 1 + 1, 0, none⟩) l.length l.length] 26 (0, 0))) := heap_setCell_same _ _ _ _ _ _ HK.out
        have HR8 : Hid _ := (heap_setCell_other wr ⟨W.heap.size, 6, none⟩ (W.heap.size + 1) (.slice (some ⟨W.heap.size + 1 + 1, 0, none⟩) l.length l.length) (by simp)).trans HR.out
        have HB8 : Hid (Below W.heap.size W (wr.setCell ⟨W.heap.size, 6, none⟩ (.slice (some ⟨W.heap.size + 1 + 1, 0, none⟩) l.length l.length))) := bs HB.out (Nat.le_refl _) _
        have HSub8 : Hid (∀ b, (b = W.heap.size + 1 + 1 ∨ S b) → (b < B0 ∨ W.heap.size + 1 + 1 ≤ b) ∧ b < (wr.setCell ⟨W.heap.size, 6, none⟩ (.slice (some ⟨W.heap.size + 1 + 1, 0, none⟩) l.length l.length)).heap.size) := fun b hb => ⟨(HSub.out b hb).1, by simpa using (HSub.out b hb).2⟩
        have HRow8 : Hid (ScRow (fun b => b = W.heap.size + 1 + 1 ∨ S b) (wr.setCell ⟨W.heap.size, 6, none⟩ (.slice (some ⟨W.heap.size + 1 + 1, 0, none⟩) l.length l.length)) (some ⟨W.heap.size + 1 + 1, 0, none⟩) ls) := ScRow.move HRow.out fun b hb => ⟨hb, heap_setCell_other _ _ _ _ (by have := (HSub.out b hb).1; show b ≠ W.heap.size; omega)⟩
        have HI48 : Hid (VaRow (· < (wr.setCell ⟨W.heap.size, 6, none⟩ (.slice (some ⟨W.heap.size + 1 + 1, 0, none⟩) l.length l.length)).heap.size) (wr.setCell ⟨W.heap.size, 6, none⟩ (.slice (some ⟨W.heap.size + 1 + 1, 0, none⟩) l.length l.length)) A4 (consts ls)) := Row.move HI4.out (fun _ _ h => h) fun b hb => ⟨by have := hb.2; simpa using this, heap_setCell_other _ _ _ _ (by have := hb.1; show b ≠ W.heap.size; omega)⟩
        have HI58 : Hid (IntRow (· < (wr.setCell ⟨W.heap.size, 6, none⟩ (.slice (some ⟨W.heap.size + 1 + 1, 0, none⟩) l.length l.length)).heap.size) (wr.setCell ⟨W.heap.size, 6, none⟩ (.slice (some ⟨W.heap.size + 1 + 1, 0, none⟩) l.length l.length)) A5 ((consts ls).map (·.f0))) := Row.move HI5.out (fun _ _ h => h) fun b hb => ⟨by have := hb.2; simpa using this, heap_setCell_other _ _ _ _ (by have := hb.1; show b ≠ W.heap.size; omega)⟩
        clear z0 z1 z2 z3 z4 z5 z6 zc0 zc1 zc2 zc3 zc4 zc5 zc6 zf0 zf1 zf2 zf3 zf4 zf5 zf6 HI4 HI5 HRow HSub hgl0
        generalize wr.setCell ⟨W.heap.size, 6, none⟩ (.slice (some ⟨W.heap.size + 1 + 1, 0, none⟩) l.length l.length) = W8 at H8 HR8 HB8 HSub8 HRow8 HI48 HI58 ⊢
        have HLL : Hid _ := hll
        clear hll
        have h8 := H8.out
        have zc0 := blk_cell h8 0 rfl
        have zc1 := blk_cell h8 1 rfl
        have zc2 := blk_cell h8 2 rfl
        have zc3 := blk_cell h8 3 rfl
        have zc4 := blk_cell h8 4 rfl
        have zc5 := blk_cell h8 5 rfl
        have zc6 := blk_cell h8 6 rfl
        have hacc : Hid (∀ (fv : Value) W', Below W8.heap.size W8 W' → Calls Tryz.prog 87 #[.agg #[.int .i64 (opnd n), .int .i64 (ar (n : Int)), .int .i64 (ores n), .string (symB n), fv], .slice A5 ((consts ls).map (·.f0)).length c5] W' fun e w' => e = .returned (.bool (opRes (n : Int) ((consts ls).map (·.f0))).isSome) ∧ Below W'.heap.size W' w') := by
          intro fv W' hW
          have h := accepts_c (opnd n) (ar (n : Int)) (ores n) (symB n) fv A5 c5 ((consts ls).map (·.f0)) W' (IntRow.move HI58.out fun b hb => ⟨by have := hW.size; omega, hW.block b hb⟩)
          rwa [accB_op hn] at h
        have h0i : (0 : Int) ≤ (n : Int) := by omega
        have h1i : (n : Int) < 14 := by omega
        rw [List.length_map] at hacc
        generalize hop : (opRes (n : Int) ((consts ls).map (·.f0))).isSome = ob at hacc
        generalize hq : (((consts ls).length : Int) == (l.length : Int)) = q
        have HOP : Hid _ := hop
        have HC5 : Hid _ := zc5
        clear hop zc0 zc1 zc2 zc3 zc4 zc5 zc6 h8
        refine wp_region_inv2 (by kernel_rfl) (PInv W8 W.heap.size n (consts ls).length l.length (.slice A4 (consts ls).length c4) (.slice (some ⟨W.heap.size + 1 + 1, 0, none⟩) l.length l.length) (.slice A5 (consts ls).length c5) q ob) (by kernel_rfl) ?_ ?_ ?_
        · refine ⟨0, undef, undef, undef, undef, undef, undef, undef, undef, undef, undef, undef, undef, undef, undef, undef, ?_, ?_⟩
          · simp only [List.setIfInBounds_toArray, List.set_cons_succ, List.set_cons_zero]
          · constructor
            · exact bd (Below.refl _ _)
            all_goals (intro h; simp at h)
        · intro listed a' WW hsz hI i hi
          obtain ⟨hi0, oj, hoj, hall⟩ := mem_ready.1 hi
          have hlt2 : i < 14 := (Array.getElem?_eq_some_iff.1 hoj).1
          obtain ⟨gg, fv, x55, x56, x57, x58, x59, x60, x61, x62, x63, x64, x65, x66, x67, x68, rfl, hx⟩ := hI
          have hcs : i = 0 ∨ i = 1 ∨ i = 2 ∨ i = 3 ∨ i = 4 ∨ i = 5 ∨ i = 6 ∨ i = 7 ∨ i = 8 ∨ i = 9 ∨ i = 10 ∨ i = 11 ∨ i = 12 ∨ i = 13 := by omega
          clear hlt2
          rcases hcs with rfl | rfl | rfl | rfl | rfl | rfl | rfl | rfl | rfl | rfl | rfl | rfl | rfl | rfl
          · have hJ := hoj
            simp at hJ
            have HX : Hid _ := hx
            have HI0 : Hid _ := hi0
            clear hx hall hoj hJ hi hi0
            simp only [List.setIfInBounds_toArray, List.set_cons_succ, List.set_cons_zero]
            refine wpOp_step (o := _) rfl fun K' hK => ?_
            rw [if_pos (by kernel_rfl)]
            have HK9 : Hid _ := hK
            clear hK
            go_wp2_with fail
            exact HK9.out _ _ ⟨gg, fv, (.slice A4 (consts ls).length c4), x56, x57, x58, x59, x60, x61, x62, x63, x64, x65, x66, x67, x68, by simp only [Act.put, List.setIfInBounds_toArray, List.set_cons_succ, List.set_cons_zero], ⟨HX.out.bel, fun _ => rfl, fun h => HX.out.f1 (lset h (by decide)), fun h => HX.out.f2 (lset h (by decide)), fun h => HX.out.f3 (lset h (by decide)), fun h => HX.out.f4 (lset h (by decide)), fun h => HX.out.f5 (lset h (by decide)), fun h => HX.out.f6 (lset h (by decide)), fun h => HX.out.f7 (lset h (by decide)), fun h => HX.out.f8 (lset h (by decide)), fun h => HX.out.f9 (lset h (by decide)), fun h => HX.out.f10 (lset h (by decide)), fun h => HX.out.f11 (lset h (by decide)), fun h => HX.out.f12 (lset h (by decide)), fun h => HX.out.f13 (lset h (by decide)), fun h => HX.out.op (lset h (by decide)), fun h => getD_set_true (HX.out.c9 (lset h (by decide))), fun h => getD_set_true (HX.out.c10 (lset h (by decide)))⟩⟩
          · have hJ := hoj
            simp at hJ
            have l0 : listed.getD 0 false = true := hall ⟨0, .data⟩ (by subst hJ; simp) rfl
            obtain rfl := hx.f0 l0
            have HX : Hid _ := hx
            have HI0 : Hid _ := hi0
            clear hx hall hoj hJ hi hi0
            simp only [List.setIfInBounds_toArray, List.set_cons_succ, List.set_cons_zero]
            refine wpOp_step (o := _) rfl fun K' hK => ?_
            rw [if_pos (by kernel_rfl)]
            have HK9 : Hid _ := hK
            clear hK
            go_wp2_with fail
            exact HK9.out _ _ ⟨gg, fv, (.slice A4 (consts ls).length c4), .int .i64 ((consts ls).length : Int), x57, x58, x59, x60, x61, x62, x63, x64, x65, x66, x67, x68, by simp only [Act.put, List.setIfInBounds_toArray, List.set_cons_succ, List.set_cons_zero], ⟨HX.out.bel, fun h => HX.out.f0 (lset h (by decide)), fun _ => rfl, fun h => HX.out.f2 (lset h (by decide)), fun h => HX.out.f3 (lset h (by decide)), fun h => HX.out.f4 (lset h (by decide)), fun h => HX.out.f5 (lset h (by decide)), fun h => HX.out.f6 (lset h (by decide)), fun h => HX.out.f7 (lset h (by decide)), fun h => HX.out.f8 (lset h (by decide)), fun h => HX.out.f9 (lset h (by decide)), fun h => HX.out.f10 (lset h (by decide)), fun h => HX.out.f11 (lset h (by decide)), fun h => HX.out.f12 (lset h (by decide)), fun h => HX.out.f13 (lset h (by decide)), fun h => HX.out.op (lset h (by decide)), fun h => getD_set_true (HX.out.c9 (lset h (by decide))), fun h => getD_set_true (HX.out.c10 (lset h (by decide)))⟩⟩
          · have hJ := hoj
            simp at hJ
            have HX : Hid _ := hx
            have HI0 : Hid _ := hi0
            clear hx hall hoj hJ hi hi0
            simp only [List.setIfInBounds_toArray, List.set_cons_succ, List.set_cons_zero]
            refine wpOp_step (o := _) rfl fun K' hK => ?_
            rw [if_pos (by kernel_rfl)]
            have HK9 : Hid _ := hK
            clear hK
            go_wp2_with fail
            exact HK9.out _ _ ⟨gg, fv, x55, x56, (.slice (some ⟨W.heap.size + 1 + 1, 0, none⟩) l.length l.length), x58, x59, x60, x61, x62, x63, x64, x65, x66, x67, x68, by simp only [Act.put, List.setIfInBounds_toArray, List.set_cons_succ, List.set_cons_zero], ⟨HX.out.bel, fun h => HX.out.f0 (lset h (by decide)), fun h => HX.out.f1 (lset h (by decide)), fun _ => rfl, fun h => HX.out.f3 (lset h (by decide)), fun h => HX.out.f4 (lset h (by decide)), fun h => HX.out.f5 (lset h (by decide)), fun h => HX.out.f6 (lset h (by decide)), fun h => HX.out.f7 (lset h (by decide)), fun h => HX.out.f8 (lset h (by decide)), fun h => HX.out.f9 (lset h (by decide)), fun h => HX.out.f10 (lset h (by decide)), fun h => HX.out.f11 (lset h (by decide)), fun h => HX.out.f12 (lset h (by decide)), fun h => HX.out.f13 (lset h (by decide)), fun h => HX.out.op (lset h (by decide)), fun h => getD_set_true (HX.out.c9 (lset h (by decide))), fun h => getD_set_true (HX.out.c10 (lset h (by decide)))⟩⟩
          · have hJ := hoj
            simp at hJ
            have l2 : listed.getD 2 false = true := hall ⟨2, .data⟩ (by subst hJ; simp) rfl
            obtain rfl := hx.f2 l2
            have HX : Hid _ := hx
            have HI0 : Hid _ := hi0
            clear hx hall hoj hJ hi hi0
            simp only [List.setIfInBounds_toArray, List.set_cons_succ, List.set_cons_zero]
            refine wpOp_step (o := _) rfl fun K' hK => ?_
            rw [if_pos (by kernel_rfl)]
            have HK9 : Hid _ := hK
            clear hK
            go_wp2_with fail
            exact HK9.out _ _ ⟨gg, fv, x55, x56, (.slice (some ⟨W.heap.size + 1 + 1, 0, none⟩) l.length l.length), .int .i64 (l.length : Int), x59, x60, x61, x62, x63, x64, x65, x66, x67, x68, by simp only [Act.put, List.setIfInBounds_toArray, List.set_cons_succ, List.set_cons_zero], ⟨HX.out.bel, fun h => HX.out.f0 (lset h (by decide)), fun h => HX.out.f1 (lset h (by decide)), fun h => HX.out.f2 (lset h (by decide)), fun _ => rfl, fun h => HX.out.f4 (lset h (by decide)), fun h => HX.out.f5 (lset h (by decide)), fun h => HX.out.f6 (lset h (by decide)), fun h => HX.out.f7 (lset h (by decide)), fun h => HX.out.f8 (lset h (by decide)), fun h => HX.out.f9 (lset h (by decide)), fun h => HX.out.f10 (lset h (by decide)), fun h => HX.out.f11 (lset h (by decide)), fun h => HX.out.f12 (lset h (by decide)), fun h => HX.out.f13 (lset h (by decide)), fun h => HX.out.op (lset h (by decide)), fun h => getD_set_true (HX.out.c9 (lset h (by decide))), fun h => getD_set_true (HX.out.c10 (lset h (by decide)))⟩⟩
          · have hJ := hoj
            simp at hJ
            have l1 : listed.getD 1 false = true := hall ⟨1, .data⟩ (by subst hJ; simp) rfl
            have l3 : listed.getD 3 false = true := hall ⟨3, .data⟩ (by subst hJ; simp) rfl
            obtain rfl := hx.f1 l1
            obtain rfl := hx.f3 l3
            have HX : Hid _ := hx
            have HI0 : Hid _ := hi0
            clear hx hall hoj hJ hi hi0
            simp only [List.setIfInBounds_toArray, List.set_cons_succ, List.set_cons_zero]
            refine wpOp_step (o := _) rfl fun K' hK => ?_
            rw [if_pos (by kernel_rfl)]
            have HK9 : Hid _ := hK
            clear hK
            go_wp2_with fail
            exact HK9.out _ _ ⟨gg, fv, x55, .int .i64 ((consts ls).length : Int), x57, .int .i64 (l.length : Int), .bool q, x60, x61, x62, x63, x64, x65, x66, x67, x68, by simp only [Act.put, List.setIfInBounds_toArray, List.set_cons_succ, List.set_cons_zero], ⟨HX.out.bel, fun h => HX.out.f0 (lset h (by decide)), fun h => HX.out.f1 (lset h (by decide)), fun h => HX.out.f2 (lset h (by decide)), fun h => HX.out.f3 (lset h (by decide)), fun _ => rfl, fun h => HX.out.f5 (lset h (by decide)), fun h => HX.out.f6 (lset h (by decide)), fun h => HX.out.f7 (lset h (by decide)), fun h => HX.out.f8 (lset h (by decide)), fun h => HX.out.f9 (lset h (by decide)), fun h => HX.out.f10 (lset h (by decide)), fun h => HX.out.f11 (lset h (by decide)), fun h => HX.out.f12 (lset h (by decide)), fun h => HX.out.f13 (lset h (by decide)), fun h => HX.out.op (lset h (by decide)), fun h => getD_set_true (HX.out.c9 (lset h (by decide))), fun h => getD_set_true (HX.out.c10 (lset h (by decide)))⟩⟩
          · have hJ := hoj
            simp at hJ
            have l4 : listed.getD 4 false = true := hall ⟨4, .data⟩ (by subst hJ; simp) rfl
            obtain rfl := hx.f4 l4
            have HX : Hid _ := hx
            have HI0 : Hid _ := hi0
            clear hx hall hoj hJ hi hi0
            simp only [List.setIfInBounds_toArray, List.set_cons_succ, List.set_cons_zero]
            refine wpOp_step (o := _) rfl fun K' hK => ?_
            rw [if_pos (by kernel_rfl)]
            have HK9 : Hid _ := hK
            clear hK
            go_wp2_with fail
            exact HK9.out _ _ ⟨gg, fv, x55, x56, x57, x58, .bool q, .bool q, x61, x62, x63, x64, x65, x66, x67, x68, by simp only [Act.put, List.setIfInBounds_toArray, List.set_cons_succ, List.set_cons_zero], ⟨HX.out.bel, fun h => HX.out.f0 (lset h (by decide)), fun h => HX.out.f1 (lset h (by decide)), fun h => HX.out.f2 (lset h (by decide)), fun h => HX.out.f3 (lset h (by decide)), fun h => HX.out.f4 (lset h (by decide)), fun _ => rfl, fun h => HX.out.f6 (lset h (by decide)), fun h => HX.out.f7 (lset h (by decide)), fun h => HX.out.f8 (lset h (by decide)), fun h => HX.out.f9 (lset h (by decide)), fun h => HX.out.f10 (lset h (by decide)), fun h => HX.out.f11 (lset h (by decide)), fun h => HX.out.f12 (lset h (by decide)), fun h => HX.out.f13 (lset h (by decide)), fun h => HX.out.op (lset h (by decide)), fun h => getD_set_true (HX.out.c9 (lset h (by decide))), fun h => getD_set_true (HX.out.c10 (lset h (by decide)))⟩⟩
          · have hJ := hoj
            simp at hJ
            have l5 : listed.getD 5 false = true := hall ⟨5, .chain⟩ (by subst hJ; simp) rfl
            cases q with
            | true =>
              obtain rfl := hx.f5 l5
              have HX : Hid _ := hx
              have HI0 : Hid _ := hi0
              clear hx hall hoj hJ hi hi0
              simp only [List.setIfInBounds_toArray, List.set_cons_succ, List.set_cons_zero]
              refine wpOp_step (o := _) rfl fun K' hK => ?_
              rw [if_pos (by kernel_rfl)]
              have HK9 : Hid _ := hK
              clear hK
              go_wp2_with fail
              refine (operators_c _).mono ?_
              rintro e w1 ⟨g2, rfl, hg1, hg2, hO, hb⟩
              obtain ⟨fv2, hv, hop⟩ := hO n hn
              have HBX : Hid _ := hb
              clear hb
              go_wp2_with fail
              exact HK9.out _ _ ⟨g2, fv2, x55, x56, x57, x58, x59, .bool true, .slice (some ⟨g2, 0, none⟩) 14 14, x62, x63, x64, x65, x66, x67, x68, by simp only [Act.put, List.setIfInBounds_toArray, List.set_cons_succ, List.set_cons_zero], ⟨bt HX.out.bel HBX.out, fun h => HX.out.f0 (lset h (by decide)), fun h => HX.out.f1 (lset h (by decide)), fun h => HX.out.f2 (lset h (by decide)), fun h => HX.out.f3 (lset h (by decide)), fun h => HX.out.f4 (lset h (by decide)), fun h => HX.out.f5 (lset h (by decide)), fun _ _ => rfl, fun h => HX.out.f7 (lset h (by decide)), fun h => HX.out.f8 (lset h (by decide)), fun h => absurd (HX.out.c9 (lset h (by decide))) (by rw [getD_both HI0.out]; decide), fun h => absurd (HX.out.c9 (HX.out.c10 (lset h (by decide)))) (by rw [getD_both HI0.out]; decide), fun h => HX.out.f11 (lset h (by decide)), fun h => HX.out.f12 (lset h (by decide)), fun h => HX.out.f13 (lset h (by decide)), fun _ _ => hop, fun h => getD_set_true (HX.out.c9 (lset h (by decide))), fun h => getD_set_true (HX.out.c10 (lset h (by decide)))⟩⟩
            | false =>
              obtain rfl := hx.f5 l5
              have HX : Hid _ := hx
              have HI0 : Hid _ := hi0
              clear hx hall hoj hJ hi hi0
              simp only [List.setIfInBounds_toArray, List.set_cons_succ, List.set_cons_zero]
              refine wpOp_step (o := _) rfl fun K' hK => ?_
              rw [if_neg (ne_true_of_eq_false (by kernel_rfl))]
              have HK9 : Hid _ := hK
              clear hK
              exact HK9.out _ _ ⟨gg, fv, x55, x56, x57, x58, x59, .bool false, undef, x62, x63, x64, x65, x66, x67, x68, by simp only [List.setIfInBounds_toArray, List.set_cons_succ, List.set_cons_zero]; rfl, ⟨HX.out.bel, fun h => HX.out.f0 (lset h (by decide)), fun h => HX.out.f1 (lset h (by decide)), fun h => HX.out.f2 (lset h (by decide)), fun h => HX.out.f3 (lset h (by decide)), fun h => HX.out.f4 (lset h (by decide)), fun h => HX.out.f5 (lset h (by decide)), fun _ hq => absurd hq (by decide), fun h => HX.out.f7 (lset h (by decide)), fun h => HX.out.f8 (lset h (by decide)), fun h => HX.out.f9 (lset h (by decide)), fun h => HX.out.f10 (lset h (by decide)), fun h => HX.out.f11 (lset h (by decide)), fun h => HX.out.f12 (lset h (by decide)), fun h => HX.out.f13 (lset h (by decide)), fun _ hq => absurd hq (by decide), fun h => getD_set_true (HX.out.c9 (lset h (by decide))), fun h => getD_set_true (HX.out.c10 (lset h (by decide)))⟩⟩
          · have hJ := hoj
            simp at hJ
            have l5 : listed.getD 5 false = true := hall ⟨5, .guard⟩ (by subst hJ; simp) rfl
            cases q with
            | true =>
              obtain rfl := hx.f5 l5
              have HX : Hid _ := hx
              have HI0 : Hid _ := hi0
              clear hx hall hoj hJ hi hi0
              simp only [List.setIfInBounds_toArray, List.set_cons_succ, List.set_cons_zero]
              refine wpOp_step (o := _) rfl fun K' hK => ?_
              rw [if_pos (by kernel_rfl)]
              have HK9 : Hid _ := hK
              clear hK
              go_wp2_with fail
              exact HK9.out _ _ ⟨gg, fv, x55, x56, x57, x58, x59, .bool true, x61, .pointer (some ⟨W.heap.size, 5, none⟩), x63, x64, x65, x66, x67, x68, by simp only [Act.put, List.setIfInBounds_toArray, List.set_cons_succ, List.set_cons_zero], ⟨HX.out.bel, fun h => HX.out.f0 (lset h (by decide)), fun h => HX.out.f1 (lset h (by decide)), fun h => HX.out.f2 (lset h (by decide)), fun h => HX.out.f3 (lset h (by decide)), fun h => HX.out.f4 (lset h (by decide)), fun h => HX.out.f5 (lset h (by decide)), fun h => HX.out.f6 (lset h (by decide)), fun _ _ => rfl, fun h => HX.out.f8 (lset h (by decide)), fun h => HX.out.f9 (lset h (by decide)), fun h => HX.out.f10 (lset h (by decide)), fun h => HX.out.f11 (lset h (by decide)), fun h => HX.out.f12 (lset h (by decide)), fun h => HX.out.f13 (lset h (by decide)), fun h => HX.out.op (lset h (by decide)), fun h => getD_set_true (HX.out.c9 (lset h (by decide))), fun h => getD_set_true (HX.out.c10 (lset h (by decide)))⟩⟩
            | false =>
              obtain rfl := hx.f5 l5
              have HX : Hid _ := hx
              have HI0 : Hid _ := hi0
              clear hx hall hoj hJ hi hi0
              simp only [List.setIfInBounds_toArray, List.set_cons_succ, List.set_cons_zero]
              refine wpOp_step (o := _) rfl fun K' hK => ?_
              rw [if_neg (ne_true_of_eq_false (by kernel_rfl))]
              have HK9 : Hid _ := hK
              clear hK
              exact HK9.out _ _ ⟨gg, fv, x55, x56, x57, x58, x59, .bool false, x61, undef, x63, x64, x65, x66, x67, x68, by simp only [List.setIfInBounds_toArray, List.set_cons_succ, List.set_cons_zero]; rfl, ⟨HX.out.bel, fun h => HX.out.f0 (lset h (by decide)), fun h => HX.out.f1 (lset h (by decide)), fun h => HX.out.f2 (lset h (by decide)), fun h => HX.out.f3 (lset h (by decide)), fun h => HX.out.f4 (lset h (by decide)), fun h => HX.out.f5 (lset h (by decide)), fun h => HX.out.f6 (lset h (by decide)), fun _ hq => absurd hq (by decide), fun h => HX.out.f8 (lset h (by decide)), fun h => HX.out.f9 (lset h (by decide)), fun h => HX.out.f10 (lset h (by decide)), fun h => HX.out.f11 (lset h (by decide)), fun h => HX.out.f12 (lset h (by decide)), fun h => HX.out.f13 (lset h (by decide)), fun h => HX.out.op (lset h (by decide)), fun h => getD_set_true (HX.out.c9 (lset h (by decide))), fun h => getD_set_true (HX.out.c10 (lset h (by decide)))⟩⟩
          · have hJ := hoj
            simp at hJ
            have l5 : listed.getD 5 false = true := hall ⟨5, .guard⟩ (by subst hJ; simp) rfl
            have l7 : listed.getD 7 false = true := hall ⟨7, .data⟩ (by subst hJ; simp) rfl
            cases q with
            | true =>
              obtain rfl := hx.f5 l5
              obtain rfl := hx.f7 l7 rfl
              have hc := cellB' hx.bel HC5.out
              have HX : Hid _ := hx
              have HI0 : Hid _ := hi0
              clear hx hall hoj hJ hi hi0
              simp only [List.setIfInBounds_toArray, List.set_cons_succ, List.set_cons_zero]
              refine wpOp_step (o := _) rfl fun K' hK => ?_
              rw [if_pos (by kernel_rfl)]
              have HK9 : Hid _ := hK
              clear hK
              go_wp2_with fail
              exact HK9.out _ _ ⟨gg, fv, x55, x56, x57, x58, x59, .bool true, x61, .pointer (some ⟨W.heap.size, 5, none⟩), .int .i64 (n : Int), x64, x65, x66, x67, x68, by simp only [Act.put, List.setIfInBounds_toArray, List.set_cons_succ, List.set_cons_zero], ⟨HX.out.bel, fun h => HX.out.f0 (lset h (by decide)), fun h => HX.out.f1 (lset h (by decide)), fun h => HX.out.f2 (lset h (by decide)), fun h => HX.out.f3 (lset h (by decide)), fun h => HX.out.f4 (lset h (by decide)), fun h => HX.out.f5 (lset h (by decide)), fun h => HX.out.f6 (lset h (by decide)), fun h => HX.out.f7 (lset h (by decide)), fun _ _ => rfl, fun h => HX.out.f9 (lset h (by decide)), fun h => HX.out.f10 (lset h (by decide)), fun h => HX.out.f11 (lset h (by decide)), fun h => HX.out.f12 (lset h (by decide)), fun h => HX.out.f13 (lset h (by decide)), fun h => HX.out.op (lset h (by decide)), fun h => getD_set_true (HX.out.c9 (lset h (by decide))), fun h => getD_set_true (HX.out.c10 (lset h (by decide)))⟩⟩
            | false =>
              obtain rfl := hx.f5 l5
              have HX : Hid _ := hx
              have HI0 : Hid _ := hi0
              clear hx hall hoj hJ hi hi0
              simp only [List.setIfInBounds_toArray, List.set_cons_succ, List.set_cons_zero]
              refine wpOp_step (o := _) rfl fun K' hK => ?_
              rw [if_neg (ne_true_of_eq_false (by kernel_rfl))]
              have HK9 : Hid _ := hK
              clear hK
              exact HK9.out _ _ ⟨gg, fv, x55, x56, x57, x58, x59, .bool false, x61, x62, undef, x64, x65, x66, x67, x68, by simp only [List.setIfInBounds_toArray, List.set_cons_succ, List.set_cons_zero]; rfl, ⟨HX.out.bel, fun h => HX.out.f0 (lset h (by decide)), fun h => HX.out.f1 (lset h (by decide)), fun h => HX.out.f2 (lset h (by decide)), fun h => HX.out.f3 (lset h (by decide)), fun h => HX.out.f4 (lset h (by decide)), fun h => HX.out.f5 (lset h (by decide)), fun h => HX.out.f6 (lset h (by decide)), fun h => HX.out.f7 (lset h (by decide)), fun _ hq => absurd hq (by decide), fun h => HX.out.f9 (lset h (by decide)), fun h => HX.out.f10 (lset h (by decide)), fun h => HX.out.f11 (lset h (by decide)), fun h => HX.out.f12 (lset h (by decide)), fun h => HX.out.f13 (lset h (by decide)), fun h => HX.out.op (lset h (by decide)), fun h => getD_set_true (HX.out.c9 (lset h (by decide))), fun h => getD_set_true (HX.out.c10 (lset h (by decide)))⟩⟩
          · have hJ := hoj
            simp at hJ
            have l5 : listed.getD 5 false = true := hall ⟨5, .guard⟩ (by subst hJ; simp) rfl
            have l6 : listed.getD 6 false = true := hall ⟨6, .data⟩ (by subst hJ; simp) rfl
            have l8 : listed.getD 8 false = true := hall ⟨8, .data⟩ (by subst hJ; simp) rfl
            cases q with
            | true =>
              obtain rfl := hx.f5 l5
              obtain rfl := hx.f6 l6 rfl
              obtain rfl := hx.f8 l8 rfl
              have HX : Hid _ := hx
              have HI0 : Hid _ := hi0
              clear hx hall hoj hJ hi hi0
              simp only [List.setIfInBounds_toArray, List.set_cons_succ, List.set_cons_zero]
              refine wpOp_step (o := _) rfl fun K' hK => ?_
              rw [if_pos (by kernel_rfl)]
              have HK9 : Hid _ := hK
              clear hK
              go_wp2_with fail
              exact HK9.out _ _ ⟨gg, fv, x55, x56, x57, x58, x59, .bool true, .slice (some ⟨gg, 0, none⟩) 14 14, x62, .int .i64 (n : Int), .pointer (some ⟨gg, n * 5, none⟩), x65, x66, x67, x68, by simp only [Act.put, List.setIfInBounds_toArray, List.set_cons_succ, List.set_cons_zero], ⟨HX.out.bel, fun h => HX.out.f0 (lset h (by decide)), fun h => HX.out.f1 (lset h (by decide)), fun h => HX.out.f2 (lset h (by decide)), fun h => HX.out.f3 (lset h (by decide)), fun h => HX.out.f4 (lset h (by decide)), fun h => HX.out.f5 (lset h (by decide)), fun h => HX.out.f6 (lset h (by decide)), fun h => HX.out.f7 (lset h (by decide)), fun h => HX.out.f8 (lset h (by decide)), fun _ _ => rfl, fun h => HX.out.f10 (lset h (by decide)), fun h => HX.out.f11 (lset h (by decide)), fun h => HX.out.f12 (lset h (by decide)), fun h => HX.out.f13 (lset h (by decide)), fun h => HX.out.op (lset h (by decide)), fun _ => getD_set_true l6, fun h => getD_set_true (HX.out.c10 (lset h (by decide)))⟩⟩
            | false =>
              obtain rfl := hx.f5 l5
              have HX : Hid _ := hx
              have HI0 : Hid _ := hi0
              clear hx hall hoj hJ hi hi0
              simp only [List.setIfInBounds_toArray, List.set_cons_succ, List.set_cons_zero]
              refine wpOp_step (o := _) rfl fun K' hK => ?_
              rw [if_neg (ne_true_of_eq_false (by kernel_rfl))]
              have HK9 : Hid _ := hK
              clear hK
              exact HK9.out _ _ ⟨gg, fv, x55, x56, x57, x58, x59, .bool false, x61, x62, x63, undef, x65, x66, x67, x68, by simp only [List.setIfInBounds_toArray, List.set_cons_succ, List.set_cons_zero]; rfl, ⟨HX.out.bel, fun h => HX.out.f0 (lset h (by decide)), fun h => HX.out.f1 (lset h (by decide)), fun h => HX.out.f2 (lset h (by decide)), fun h => HX.out.f3 (lset h (by decide)), fun h => HX.out.f4 (lset h (by decide)), fun h => HX.out.f5 (lset h (by decide)), fun h => HX.out.f6 (lset h (by decide)), fun h => HX.out.f7 (lset h (by decide)), fun h => HX.out.f8 (lset h (by decide)), fun _ hq => absurd hq (by decide), fun h => HX.out.f10 (lset h (by decide)), fun h => HX.out.f11 (lset h (by decide)), fun h => HX.out.f12 (lset h (by decide)), fun h => HX.out.f13 (lset h (by decide)), fun h => HX.out.op (lset h (by decide)), fun _ => getD_set_true l6, fun h => getD_set_true (HX.out.c10 (lset h (by decide)))⟩⟩
          · have hJ := hoj
            simp at hJ
            have l5 : listed.getD 5 false = true := hall ⟨5, .guard⟩ (by subst hJ; simp) rfl
            have l9 : listed.getD 9 false = true := hall ⟨9, .data⟩ (by subst hJ; simp) rfl
            cases q with
            | true =>
              obtain rfl := hx.f5 l5
              obtain rfl := hx.f9 l9 rfl
              have hop := hx.op (hx.c9 l9) rfl
              have k0' := hop.1
              have k1 := hop.2.1
              have k2 := hop.2.2.1
              have k3 := hop.2.2.2.1
              have k4 := hop.2.2.2.2
              have HX : Hid _ := hx
              have HI0 : Hid _ := hi0
              clear hx hall hoj hJ hi hi0
              simp only [List.setIfInBounds_toArray, List.set_cons_succ, List.set_cons_zero]
              refine wpOp_step (o := _) rfl fun K' hK => ?_
              rw [if_pos (by kernel_rfl)]
              have HK9 : Hid _ := hK
              clear hK
              go_wp2_with fail
              exact HK9.out _ _ ⟨gg, fv, x55, x56, x57, x58, x59, .bool true, x61, x62, x63, .pointer (some ⟨gg, n * 5, none⟩), .agg #[.int .i64 (opnd n), .int .i64 (ar (n : Int)), .int .i64 (ores n), .string (symB n), fv], x66, x67, x68, by simp only [Act.put, List.setIfInBounds_toArray, List.set_cons_succ, List.set_cons_zero], ⟨HX.out.bel, fun h => HX.out.f0 (lset h (by decide)), fun h => HX.out.f1 (lset h (by decide)), fun h => HX.out.f2 (lset h (by decide)), fun h => HX.out.f3 (lset h (by decide)), fun h => HX.out.f4 (lset h (by decide)), fun h => HX.out.f5 (lset h (by decide)), fun h => HX.out.f6 (lset h (by decide)), fun h => HX.out.f7 (lset h (by decide)), fun h => HX.out.f8 (lset h (by decide)), fun h => HX.out.f9 (lset h (by decide)), fun _ _ => rfl, fun h => HX.out.f11 (lset h (by decide)), fun h => HX.out.f12 (lset h (by decide)), fun h => HX.out.f13 (lset h (by decide)), fun h => HX.out.op (lset h (by decide)), fun h => getD_set_true (HX.out.c9 (lset h (by decide))), fun _ => getD_set_true l9⟩⟩
            | false =>
              obtain rfl := hx.f5 l5
              have HX : Hid _ := hx
              have HI0 : Hid _ := hi0
              clear hx hall hoj hJ hi hi0
              simp only [List.setIfInBounds_toArray, List.set_cons_succ, List.set_cons_zero]
              refine wpOp_step (o := _) rfl fun K' hK => ?_
              rw [if_neg (ne_true_of_eq_false (by kernel_rfl))]
              have HK9 : Hid _ := hK
              clear hK
              exact HK9.out _ _ ⟨gg, fv, x55, x56, x57, x58, x59, .bool false, x61, x62, x63, x64, undef, x66, x67, x68, by simp only [List.setIfInBounds_toArray, List.set_cons_succ, List.set_cons_zero]; rfl, ⟨HX.out.bel, fun h => HX.out.f0 (lset h (by decide)), fun h => HX.out.f1 (lset h (by decide)), fun h => HX.out.f2 (lset h (by decide)), fun h => HX.out.f3 (lset h (by decide)), fun h => HX.out.f4 (lset h (by decide)), fun h => HX.out.f5 (lset h (by decide)), fun h => HX.out.f6 (lset h (by decide)), fun h => HX.out.f7 (lset h (by decide)), fun h => HX.out.f8 (lset h (by decide)), fun h => HX.out.f9 (lset h (by decide)), fun _ hq => absurd hq (by decide), fun h => HX.out.f11 (lset h (by decide)), fun h => HX.out.f12 (lset h (by decide)), fun h => HX.out.f13 (lset h (by decide)), fun h => HX.out.op (lset h (by decide)), fun h => getD_set_true (HX.out.c9 (lset h (by decide))), fun _ => getD_set_true l9⟩⟩
          · have hJ := hoj
            simp at hJ
            have l5 : listed.getD 5 false = true := hall ⟨5, .guard⟩ (by subst hJ; simp) rfl
            cases q with
            | true =>
              obtain rfl := hx.f5 l5
              have HX : Hid _ := hx
              have HI0 : Hid _ := hi0
              clear hx hall hoj hJ hi hi0
              simp only [List.setIfInBounds_toArray, List.set_cons_succ, List.set_cons_zero]
              refine wpOp_step (o := _) rfl fun K' hK => ?_
              rw [if_pos (by kernel_rfl)]
              have HK9 : Hid _ := hK
              clear hK
              go_wp2_with fail
              exact HK9.out _ _ ⟨gg, fv, x55, x56, x57, x58, x59, .bool true, x61, x62, x63, x64, x65, (.slice A5 (consts ls).length c5), x67, x68, by simp only [Act.put, List.setIfInBounds_toArray, List.set_cons_succ, List.set_cons_zero], ⟨HX.out.bel, fun h => HX.out.f0 (lset h (by decide)), fun h => HX.out.f1 (lset h (by decide)), fun h => HX.out.f2 (lset h (by decide)), fun h => HX.out.f3 (lset h (by decide)), fun h => HX.out.f4 (lset h (by decide)), fun h => HX.out.f5 (lset h (by decide)), fun h => HX.out.f6 (lset h (by decide)), fun h => HX.out.f7 (lset h (by decide)), fun h => HX.out.f8 (lset h (by decide)), fun h => HX.out.f9 (lset h (by decide)), fun h => HX.out.f10 (lset h (by decide)), fun _ _ => rfl, fun h => HX.out.f12 (lset h (by decide)), fun h => HX.out.f13 (lset h (by decide)), fun h => HX.out.op (lset h (by decide)), fun h => getD_set_true (HX.out.c9 (lset h (by decide))), fun h => getD_set_true (HX.out.c10 (lset h (by decide)))⟩⟩
            | false =>
              obtain rfl := hx.f5 l5
              have HX : Hid _ := hx
              have HI0 : Hid _ := hi0
              clear hx hall hoj hJ hi hi0
              simp only [List.setIfInBounds_toArray, List.set_cons_succ, List.set_cons_zero]
              refine wpOp_step (o := _) rfl fun K' hK => ?_
              rw [if_neg (ne_true_of_eq_false (by kernel_rfl))]
              have HK9 : Hid _ := hK
              clear hK
              exact HK9.out _ _ ⟨gg, fv, x55, x56, x57, x58, x59, .bool false, x61, x62, x63, x64, x65, undef, x67, x68, by simp only [List.setIfInBounds_toArray, List.set_cons_succ, List.set_cons_zero]; rfl, ⟨HX.out.bel, fun h => HX.out.f0 (lset h (by decide)), fun h => HX.out.f1 (lset h (by decide)), fun h => HX.out.f2 (lset h (by decide)), fun h => HX.out.f3 (lset h (by decide)), fun h => HX.out.f4 (lset h (by decide)), fun h => HX.out.f5 (lset h (by decide)), fun h => HX.out.f6 (lset h (by decide)), fun h => HX.out.f7 (lset h (by decide)), fun h => HX.out.f8 (lset h (by decide)), fun h => HX.out.f9 (lset h (by decide)), fun h => HX.out.f10 (lset h (by decide)), fun _ hq => absurd hq (by decide), fun h => HX.out.f12 (lset h (by decide)), fun h => HX.out.f13 (lset h (by decide)), fun h => HX.out.op (lset h (by decide)), fun h => getD_set_true (HX.out.c9 (lset h (by decide))), fun h => getD_set_true (HX.out.c10 (lset h (by decide)))⟩⟩
          · have hJ := hoj
            simp at hJ
            have l5 : listed.getD 5 false = true := hall ⟨5, .guard⟩ (by subst hJ; simp) rfl
            have l10 : listed.getD 10 false = true := hall ⟨10, .data⟩ (by subst hJ; simp) rfl
            have l11 : listed.getD 11 false = true := hall ⟨11, .data⟩ (by subst hJ; simp) rfl
            cases q with
            | true =>
              obtain rfl := hx.f5 l5
              obtain rfl := hx.f10 l10 rfl
              obtain rfl := hx.f11 l11 rfl
              have HX : Hid _ := hx
              have HI0 : Hid _ := hi0
              clear hx hall hoj hJ hi hi0
              simp only [List.setIfInBounds_toArray, List.set_cons_succ, List.set_cons_zero]
              refine wpOp_step (o := _) rfl fun K' hK => ?_
              rw [if_pos (by kernel_rfl)]
              have HK9 : Hid _ := hK
              clear hK
              go_wp2_with fail
              refine (hacc.out _ _ HX.out.bel).mono ?_
              rintro e w2 ⟨rfl, hb⟩
              have HBX : Hid _ := hb
              clear hb
              go_wp2_with fail
              exact HK9.out _ _ ⟨gg, fv, x55, x56, x57, x58, x59, .bool true, x61, x62, x63, x64, .agg #[.int .i64 (opnd n), .int .i64 (ar (n : Int)), .int .i64 (ores n), .string (symB n), fv], (.slice A5 (consts ls).length c5), .bool ob, x68, by simp only [Act.put, List.setIfInBounds_toArray, List.set_cons_succ, List.set_cons_zero], ⟨bt HX.out.bel HBX.out, fun h => HX.out.f0 (lset h (by decide)), fun h => HX.out.f1 (lset h (by decide)), fun h => HX.out.f2 (lset h (by decide)), fun h => HX.out.f3 (lset h (by decide)), fun h => HX.out.f4 (lset h (by decide)), fun h => HX.out.f5 (lset h (by decide)), fun h => HX.out.f6 (lset h (by decide)), fun h => HX.out.f7 (lset h (by decide)), fun h => HX.out.f8 (lset h (by decide)), fun h => HX.out.f9 (lset h (by decide)), fun h => HX.out.f10 (lset h (by decide)), fun h => HX.out.f11 (lset h (by decide)), fun _ _ => rfl, fun h => HX.out.f13 (lset h (by decide)), fun h hq => OpC.below (HX.out.op (lset h (by decide)) hq) HBX.out, fun h => getD_set_true (HX.out.c9 (lset h (by decide))), fun h => getD_set_true (HX.out.c10 (lset h (by decide)))⟩⟩
            | false =>
              obtain rfl := hx.f5 l5
              have HX : Hid _ := hx
              have HI0 : Hid _ := hi0
              clear hx hall hoj hJ hi hi0
              simp only [List.setIfInBounds_toArray, List.set_cons_succ, List.set_cons_zero]
              refine wpOp_step (o := _) rfl fun K' hK => ?_
              rw [if_neg (ne_true_of_eq_false (by kernel_rfl))]
              have HK9 : Hid _ := hK
              clear hK
              exact HK9.out _ _ ⟨gg, fv, x55, x56, x57, x58, x59, .bool false, x61, x62, x63, x64, x65, x66, undef, x68, by simp only [List.setIfInBounds_toArray, List.set_cons_succ, List.set_cons_zero]; rfl, ⟨HX.out.bel, fun h => HX.out.f0 (lset h (by decide)), fun h => HX.out.f1 (lset h (by decide)), fun h => HX.out.f2 (lset h (by decide)), fun h => HX.out.f3 (lset h (by decide)), fun h => HX.out.f4 (lset h (by decide)), fun h => HX.out.f5 (lset h (by decide)), fun h => HX.out.f6 (lset h (by decide)), fun h => HX.out.f7 (lset h (by decide)), fun h => HX.out.f8 (lset h (by decide)), fun h => HX.out.f9 (lset h (by decide)), fun h => HX.out.f10 (lset h (by decide)), fun h => HX.out.f11 (lset h (by decide)), fun _ hq => absurd hq (by decide), fun h => HX.out.f13 (lset h (by decide)), fun h => HX.out.op (lset h (by decide)), fun h => getD_set_true (HX.out.c9 (lset h (by decide))), fun h => getD_set_true (HX.out.c10 (lset h (by decide)))⟩⟩
          · have hJ := hoj
            simp at hJ
            have l5 : listed.getD 5 false = true := hall ⟨5, .data⟩ (by subst hJ; simp) rfl
            have l12 : listed.getD 12 false = true := hall ⟨12, .data⟩ (by subst hJ; simp) rfl
            cases q with
            | true =>
              obtain rfl := hx.f5 l5
              obtain rfl := hx.f12 l12 rfl
              have HX : Hid _ := hx
              have HI0 : Hid _ := hi0
              clear hx hall hoj hJ hi hi0
              simp only [List.setIfInBounds_toArray, List.set_cons_succ, List.set_cons_zero]
              refine wpOp_step (o := _) rfl fun K' hK => ?_
              rw [if_pos (by kernel_rfl)]
              have HK9 : Hid _ := hK
              clear hK
              go_wp2_with fail
              exact HK9.out _ _ ⟨gg, fv, x55, x56, x57, x58, x59, .bool true, x61, x62, x63, x64, x65, x66, .bool ob, .bool ob, by simp only [Act.put, List.setIfInBounds_toArray, List.set_cons_succ, List.set_cons_zero], ⟨HX.out.bel, fun h => HX.out.f0 (lset h (by decide)), fun h => HX.out.f1 (lset h (by decide)), fun h => HX.out.f2 (lset h (by decide)), fun h => HX.out.f3 (lset h (by decide)), fun h => HX.out.f4 (lset h (by decide)), fun h => HX.out.f5 (lset h (by decide)), fun h => HX.out.f6 (lset h (by decide)), fun h => HX.out.f7 (lset h (by decide)), fun h => HX.out.f8 (lset h (by decide)), fun h => HX.out.f9 (lset h (by decide)), fun h => HX.out.f10 (lset h (by decide)), fun h => HX.out.f11 (lset h (by decide)), fun h => HX.out.f12 (lset h (by decide)), fun _ => rfl, fun h => HX.out.op (lset h (by decide)), fun h => getD_set_true (HX.out.c9 (lset h (by decide))), fun h => getD_set_true (HX.out.c10 (lset h (by decide)))⟩⟩
            | false =>
              obtain rfl := hx.f5 l5
              have HX : Hid _ := hx
              have HI0 : Hid _ := hi0
              clear hx hall hoj hJ hi hi0
              simp only [List.setIfInBounds_toArray, List.set_cons_succ, List.set_cons_zero]
              refine wpOp_step (o := _) rfl fun K' hK => ?_
              rw [if_pos (by kernel_rfl)]
              have HK9 : Hid _ := hK
              clear hK
              go_wp2_with fail
              exact HK9.out _ _ ⟨gg, fv, x55, x56, x57, x58, x59, .bool false, x61, x62, x63, x64, x65, x66, x67, .bool false, by simp only [Act.put, List.setIfInBounds_toArray, List.set_cons_succ, List.set_cons_zero], ⟨HX.out.bel, fun h => HX.out.f0 (lset h (by decide)), fun h => HX.out.f1 (lset h (by decide)), fun h => HX.out.f2 (lset h (by decide)), fun h => HX.out.f3 (lset h (by decide)), fun h => HX.out.f4 (lset h (by decide)), fun h => HX.out.f5 (lset h (by decide)), fun h => HX.out.f6 (lset h (by decide)), fun h => HX.out.f7 (lset h (by decide)), fun h => HX.out.f8 (lset h (by decide)), fun h => HX.out.f9 (lset h (by decide)), fun h => HX.out.f10 (lset h (by decide)), fun h => HX.out.f11 (lset h (by decide)), fun h => HX.out.f12 (lset h (by decide)), fun _ => rfl, fun h => HX.out.op (lset h (by decide)), fun h => getD_set_true (HX.out.c9 (lset h (by decide))), fun h => getD_set_true (HX.out.c10 (lset h (by decide)))⟩⟩
        · rintro a' WW ⟨gg, fv, x55, x56, x57, x58, x59, x60, x61, x62, x63, x64, x65, x66, x67, x68, rfl, hx⟩
          have hlast := hx.f13 (by simp)
          have HB9 : Hid (Below W8.heap.size W8 WW) := hx.bel
          clear hx
          subst hlast
          simp only [List.setIfInBounds_toArray, List.set_cons_succ, List.set_cons_zero]
          have HH9 : Hid _ := bk HB9.out H8.out
          have HR9 : Hid _ := bk HB9.out HR8.out
          have HBW : Hid _ := bt HB8.out HB9.out
          have HSub9 : Hid (∀ b, (b = W.heap.size + 1 + 1 ∨ S b) → (b < B0 ∨ W.heap.size + 1 + 1 ≤ b) ∧ b < WW.heap.size) := fun b hb => ⟨(HSub8.out b hb).1, Nat.lt_of_lt_of_le (HSub8.out b hb).2 HB9.out.size⟩
          have HRow9 : Hid _ := ScRow.move HRow8.out fun b hb => ⟨hb, HB9.out.block b (HSub8.out b hb).2⟩
          have HV9 : Hid (VaRow (· < WW.heap.size) WW A4 (consts ls)) := VaRow.low HI48.out HB9.out HB9.out.size
          have z := HH9.out
          have zc0 := blk_cell z 0 rfl
          have zc1 := blk_cell z 1 rfl
          have zc2 := blk_cell z 2 rfl
          have zc3 := blk_cell z 3 rfl
          have zc4 := blk_cell z 4 rfl
          have zc5 := blk_cell z 5 rfl
          have zc6 := blk_cell z 6 rfl
          clear z
          cases hqo : (q && ob) with
          | true =>
            obtain ⟨hq1, hob⟩ := (Bool.and_eq_true _ _).mp hqo
            subst hq1
            subst hob
            have hcn : (consts ls).length = ls.length := by have := HLL.out; have h := of_decide_eq_true hq; omega
            have HALL : Hid _ := consts_all hcn
            have HCN : Hid _ := hcn
            clear hcn hq hqo
            go_wp2_with fail
            refine (operate_c n hn (consts ls) A4 c4 WW (by have h1 := HCN.out; have h2 := HLL.out; omega) HV9.out).mono ?_
            rintro e w2 ⟨rfl, hb⟩
            have HR10 : Hid _ := bk hb HR9.out
            have HBW2 : Hid _ := bt HBW.out hb
            clear hb zc0 zc1 zc2 zc3 zc4 zc5 zc6
            go_wp2_with fail
            refine (constant_c _ _).mono ?_
            rintro e w3 ⟨rfl, hb⟩
            have HR11 : Hid _ := bk hb HR10.out
            have HBW3 : Hid _ := bt HBW2.out hb
            have z2 := HR11.out
            have yc0 := blk_cell z2 0 rfl
            have yf0 := blk_free z2 0
            have yc1 := blk_cell z2 1 rfl
            have yf1 := blk_free z2 1
            have yc2 := blk_cell z2 2 rfl
            have yf2 := blk_free z2 2
            have yc3 := blk_cell z2 3 rfl
            have yf3 := blk_free z2 3
            have yc4 := blk_cell z2 4 rfl
            have yf4 := blk_free z2 4
            have yc5 := blk_cell z2 5 rfl
            have yf5 := blk_free z2 5
            have yc6 := blk_cell z2 6 rfl
            have yf6 := blk_free z2 6
            clear hb z2
            go_wp2_with fail
            rw [set7 HR11.out]
            refine bodyPost_ret (ret1 Tryz.results63 rfl (setRow_heap _ _ _ _ _ _ HR11.out) Tryz.isAgg26 Tryz.sizeOf26) rfl ⟨FoldR_mk (r := con (operate ltB n (consts ls))) (A := none) (c := 0) ?_ (Nat.le_refl _) (Row.nil _), bsr HBW3.out (by omega) _⟩
            rw [HRu.out, Pu.rule, if_pos, ← HALL.out.2]
            rw [HALL.out.1, Bool.true_and, ← HOP.out, HALL.out.2, List.map_map]
            rfl
          | false =>
            have HNo : Hid (¬ (ls.all isCon && (opRes (n : Int) (ls.map (·.f2.f0))).isSome) = true) := by
              intro h
              obtain ⟨h1, h2⟩ := (Bool.and_eq_true _ _).mp h
              have h3 : (consts ls).length = ls.length := Classical.byContradiction fun h => by rw [consts_not h] at h1; cases h1
              have h4 : q = true := by rw [← hq, h3, HLL.out]; simp
              have h5 : ob = true := by rw [← HOP.out, (consts_all h3).2, List.map_map]; exact h2
              rw [h4, h5] at hqo; cases hqo
            clear hq hqo HOP
            by_cases h11 : n = 11 ∨ n = 12
            · have hxy := two_of (show ls.length = 2 by rw [HLL.out, HA.out, ar, if_neg (by omega)])
              generalize ls.headD scz = x at hxy
              generalize ls.getD 1 scz = y at hxy
              have HXY : Hid _ := hxy
              obtain ⟨b, o, A1, c1, hA, hbS, hc1, hr1, e0, e1, e2, e3, e4, e5, e6⟩ := ScRow.get HRow9.out (i := 0) (x := x) (by rw [hxy]; rfl)
              injection hA with hA; injection hA with hA hA'; subst hA; subst hA'
              obtain ⟨b, o, A2, c2, hA, hbS, hc2, hr2, f0, f1, f2, f3, f4, f5, f6⟩ := ScRow.get HRow9.out (i := 1) (x := y) (by rw [hxy]; rfl)
              injection hA with hA; injection hA with hA hA'; subst hA; subst hA'
              simp only [Nat.zero_mul, Nat.add_zero, Nat.one_mul, Nat.zero_add] at e0 e1 e2 e3 e4 e5 e6 f0 f1 f2 f3 f4 f5 f6
              have HR1 : Hid _ := hr1
              have HR2 : Hid _ := hr2
              have hl2' : l.length = 2 := by rw [← HLL.out, hxy]; rfl
              have HRow' : Hid (ScRow (fun b => b = W.heap.size + 1 + 1 ∨ S b) WW (some ⟨W.heap.size + 1 + 1, 0, none⟩) [x, y]) := by rw [← hxy]; exact HRow9.out
              have HRu' : Hid (Pu.fold ltB ⟨k0, 0, vz, n, l⟩ = Pu.rule ltB 2 0 vz n [x, y]) := by rw [← hxy]; exact HRu.out
              have HNo' : Hid (¬ ([x, y].all isCon && (opRes (n : Int) ([x, y].map (·.f2.f0))).isSome) = true) := by rw [← hxy]; exact HNo.out
              have HLg : Hid (∀ W', Below WW.heap.size WW W' → Calls Tryz.prog 95 #[.agg #[.int .i64 k0, .int .i64 0, .int .i64 vz.f0, .int .i64 vz.f1, .string vz.f2, .int .i64 (n : Int), .slice (some ⟨W.heap.size + 1 + 1, 0, none⟩) 2 2], scV x A1 c1, scV y A2 c2] W' fun e w' =>
                  LogR ⟨k0, 0, vz, n, [x, y]⟩ x y (some ⟨W.heap.size + 1 + 1, 0, none⟩) A1 A2 2 c1 c2 e ∧ Below W'.heap.size W' w') := by
                intro W' hW
                have hm : ∀ b, (b = W.heap.size + 1 + 1 ∨ S b) → b < W'.heap.size ∧ W'.heap[b]? = WW.heap[b]? := fun b hb => ⟨Nat.lt_of_lt_of_le (HSub9.out b hb).2 hW.size, hW.block b (HSub9.out b hb).2⟩
                exact logical_c ⟨k0, 0, vz, n, [x, y]⟩ x y (some ⟨W.heap.size + 1 + 1, 0, none⟩) A1 A2 2 c1 c2 W' (ScRow.move HRow'.out hm) (ScRow.move HR1.out hm) (ScRow.move HR2.out hm)
              clear hr1 hr2 hxy hbS
              have h11' : ((n : Int) == 11) = true ∨ (((n : Int) == 11) = false ∧ ((n : Int) == 12) = true) := by
                rcases h11 with h | h
                · exact .inl (by simp; omega)
                · exact .inr ⟨by simp; omega, by simp; omega⟩
              have HN11 : Hid _ := h11
              clear h11
              rcases h11' with h11' | ⟨h11', h12'⟩
              all_goals go_wp2_with fail
              all_goals refine region_still 7 (by kernel_rfl) (by kernel_rfl) ?_
              all_goals simp only [List.take_succ_cons, List.take_zero, List.drop_succ_cons, List.drop_zero]
              all_goals repeat still_step
              all_goals refine wpStill_nil ?_
              all_goals go_wp2_with fail
              all_goals refine (HLg.out _ (by first | exact Below.refl _ _ | exact bd (Below.refl _ _))).mono ?_
              all_goals rintro e w2 ⟨⟨r, A', c', rfl, hr, hcs⟩, hb⟩
              all_goals have HRr : Hid _ := logR_row hcs HRow'.out (Nat.le_refl 2) HR1.out hc1 HR2.out hc2
              all_goals have HB10 : Hid (Below WW.heap.size WW w2) := bt (by first | exact Below.refl _ _ | exact bd (Below.refl _ _)) hb
              all_goals have HR10 : Hid _ := bk HB10.out HR9.out
              all_goals have HRe : Hid _ := hr
              all_goals clear hb hcs hr zc0 zc1 zc2 zc3 zc4 zc5 zc6 e0 e1 e2 e3 e4 e5 e6 f0 f1 f2 f3 f4 f5 f6
              all_goals have z2 := HR10.out
              all_goals have yc0 := blk_cell z2 0 rfl
              all_goals have yf0 := blk_free z2 0
              all_goals have yc1 := blk_cell z2 1 rfl
              all_goals have yf1 := blk_free z2 1
              all_goals have yc2 := blk_cell z2 2 rfl
              all_goals have yf2 := blk_free z2 2
              all_goals have yc3 := blk_cell z2 3 rfl
              all_goals have yf3 := blk_free z2 3
              all_goals have yc4 := blk_cell z2 4 rfl
              all_goals have yf4 := blk_free z2 4
              all_goals have yc5 := blk_cell z2 5 rfl
              all_goals have yf5 := blk_free z2 5
              all_goals have yc6 := blk_cell z2 6 rfl
              all_goals have yf6 := blk_free z2 6
              all_goals clear z2
              all_goals go_wp2_with fail
              all_goals rw [set7 HR10.out]
              all_goals refine bodyPost_ret (ret1 Tryz.results63 rfl (setRow_heap _ _ _ _ _ _ HR10.out) Tryz.isAgg26 Tryz.sizeOf26) rfl ⟨FoldR_mk (r := r) (A := A') (c := c') ?_ HRr.out.2 ?_, bsr (bt HBW.out HB10.out) (by omega) _⟩
              all_goals first
                | (rw [HRu'.out, Pu.rule, if_neg HNo'.out, if_pos (by have := HN11.out; omega), HRe.out, H2.out]; rfl)
                | exact ScRow.move HRr.out.1 fun b hb => ⟨by have h1 := HSub9.out b hb; have h2 := HB10.out.size; rw [setRow_size]; omega, (setRow_other _ _ _ _ (by have h1 := (HSub9.out b hb).1; omega)).trans (HB10.out.block b (HSub9.out b hb).2)⟩
            · have hi1 : ((n : Int) == 11) = false := by simp; omega
              have hi2 : ((n : Int) == 12) = false := by simp; omega
              by_cases hu : n = 13 ∨ n = 3
              · have hxy := one_of (show ls.length = 1 by rw [HLL.out, HA.out, ar, if_pos (by omega)])
                generalize ls.headD scz = x at hxy
                obtain ⟨b, o, A1, c1, hA, hbS, hc1, hr1, e0, e1, e2, e3, e4, e5, e6⟩ := ScRow.get HRow9.out (i := 0) (x := x) (by rw [hxy]; rfl)
                injection hA with hA; injection hA with hA hA'; subst hA; subst hA'
                simp only [Nat.zero_mul, Nat.add_zero, Nat.zero_add] at e0 e1 e2 e3 e4 e5 e6
                have HR1 : Hid _ := hr1
                have HE0 : Hid _ := e0
                have HE5 : Hid _ := e5
                have HE6 : Hid _ := e6
                have HC5W : Hid _ := zc5
                have hokx : okT x = true := HOK'.out x (by rw [hxy]; simp)
                have HOKx : Hid _ := hokx
                have HNo' : Hid (¬ ([x].all isCon && (opRes (n : Int) ([x].map (·.f2.f0))).isSome) = true) := by rw [← hxy]; exact HNo.out
                have HRu' : Hid (Pu.fold ltB ⟨k0, 0, vz, n, l⟩ = Pu.rule ltB 2 0 vz n [x]) := by rw [← hxy]; exact HRu.out
                have HXY : Hid _ := hxy
                have hl1' : (0 : Int) < (l.length : Int) := by omega
                have h13' : ((n : Int) == 13) = true ∨ (((n : Int) == 13) = false ∧ ((n : Int) == 3) = true) := by
                  rcases hu with h | h
                  · exact .inl (by simp; omega)
                  · exact .inr ⟨by simp; omega, by simp; omega⟩
                have HU : Hid _ := hu
                clear hu hr1 hxy hbS hokx e1 e2 e3 e4 e5 e6 zc0 zc1 zc2 zc3 zc4 zc6
                rcases h13' with h13' | ⟨h13', h3'⟩
                all_goals
                  go_wp2_with fail
                  clear e0 zc5
                  generalize hq2 : (x.f0 == 2) = q2
                  generalize hob2 : (x.f3 == (n : Int)) = ob2
                  refine wp_region_inv2 (by kernel_rfl) (QInv WW W.heap.size (W.heap.size + 1 + 1) n x (.slice (some ⟨W.heap.size + 1 + 1, 0, none⟩) l.length l.length) q2 ob2) (by kernel_rfl) ?_ ?_ ?_
                  · refine ⟨undef, undef, undef, undef, undef, undef, undef, undef, undef, undef, undef, undef, undef, undef, ?_, ?_⟩
                    · simp only [List.setIfInBounds_toArray, List.set_cons_succ, List.set_cons_zero]
                    · constructor
                      · exact bd (Below.refl _ _)
                      all_goals (intro h; simp at h)
                  · intro listed a' WX hsz hI i hi
                    obtain ⟨hi0, oj, hoj, hall⟩ := mem_ready.1 hi
                    have hlt2 : i < 14 := (Array.getElem?_eq_some_iff.1 hoj).1
                    obtain ⟨x90, x91, x92, x93, x94, x95, x96, x97, x98, x99, x100, x101, x102, x103, rfl, hx⟩ := hI
                    have hcs : i = 0 ∨ i = 1 ∨ i = 2 ∨ i = 3 ∨ i = 4 ∨ i = 5 ∨ i = 6 ∨ i = 7 ∨ i = 8 ∨ i = 9 ∨ i = 10 ∨ i = 11 ∨ i = 12 ∨ i = 13 := by omega
                    clear hlt2
                    rcases hcs with rfl | rfl | rfl | rfl | rfl | rfl | rfl | rfl | rfl | rfl | rfl | rfl | rfl | rfl
                    · have hJ := hoj
                      simp at hJ
                      have HX : Hid _ := hx
                      have HI0 : Hid _ := hi0
                      clear hx hall hoj hJ hi hi0
                      simp only [List.setIfInBounds_toArray, List.set_cons_succ, List.set_cons_zero]
                      refine wpOp_step (o := _) rfl fun K' hK => ?_
                      rw [if_pos (by kernel_rfl)]
                      have HK9 : Hid _ := hK
                      clear hK
                      go_wp2_with fail
                      exact HK9.out _ _ ⟨(.slice (some ⟨W.heap.size + 1 + 1, 0, none⟩) l.length l.length), x91, x92, x93, x94, x95, x96, x97, x98, x99, x100, x101, x102, x103, by simp only [Act.put, List.setIfInBounds_toArray, List.set_cons_succ, List.set_cons_zero], ⟨HX.out.bel, fun _ => rfl, fun h => HX.out.f1 (lset h (by decide)), fun h => HX.out.f2 (lset h (by decide)), fun h => HX.out.f3 (lset h (by decide)), fun h => HX.out.f4 (lset h (by decide)), fun h => HX.out.f5 (lset h (by decide)), fun h => HX.out.f6 (lset h (by decide)), fun h => HX.out.f7 (lset h (by decide)), fun h => HX.out.f8 (lset h (by decide)), fun h => HX.out.f9 (lset h (by decide)), fun h => HX.out.f10 (lset h (by decide)), fun h => HX.out.f11 (lset h (by decide)), fun h => HX.out.f12 (lset h (by decide)), fun h => HX.out.f13 (lset h (by decide))⟩⟩
                    · have hJ := hoj
                      simp at hJ
                      have l0 : listed.getD 0 false = true := hall ⟨0, .data⟩ (by subst hJ; simp) rfl
                      obtain rfl := hx.f0 l0
                      have HX : Hid _ := hx
                      have HI0 : Hid _ := hi0
                      clear hx hall hoj hJ hi hi0
                      simp only [List.setIfInBounds_toArray, List.set_cons_succ, List.set_cons_zero]
                      refine wpOp_step (o := _) rfl fun K' hK => ?_
                      rw [if_pos (by kernel_rfl)]
                      have HK9 : Hid _ := hK
                      clear hK
                      go_wp2_with fail
                      exact HK9.out _ _ ⟨(.slice (some ⟨W.heap.size + 1 + 1, 0, none⟩) l.length l.length), .pointer (some ⟨(W.heap.size + 1 + 1), 0, none⟩), x92, x93, x94, x95, x96, x97, x98, x99, x100, x101, x102, x103, by simp only [Act.put, List.setIfInBounds_toArray, List.set_cons_succ, List.set_cons_zero], ⟨HX.out.bel, fun h => HX.out.f0 (lset h (by decide)), fun _ => rfl, fun h => HX.out.f2 (lset h (by decide)), fun h => HX.out.f3 (lset h (by decide)), fun h => HX.out.f4 (lset h (by decide)), fun h => HX.out.f5 (lset h (by decide)), fun h => HX.out.f6 (lset h (by decide)), fun h => HX.out.f7 (lset h (by decide)), fun h => HX.out.f8 (lset h (by decide)), fun h => HX.out.f9 (lset h (by decide)), fun h => HX.out.f10 (lset h (by decide)), fun h => HX.out.f11 (lset h (by decide)), fun h => HX.out.f12 (lset h (by decide)), fun h => HX.out.f13 (lset h (by decide))⟩⟩
                    · have hJ := hoj
                      simp at hJ
                      have l1 : listed.getD 1 false = true := hall ⟨1, .data⟩ (by subst hJ; simp) rfl
                      obtain rfl := hx.f1 l1
                      have HX : Hid _ := hx
                      have HI0 : Hid _ := hi0
                      clear hx hall hoj hJ hi hi0
                      simp only [List.setIfInBounds_toArray, List.set_cons_succ, List.set_cons_zero]
                      refine wpOp_step (o := _) rfl fun K' hK => ?_
                      rw [if_pos (by kernel_rfl)]
                      have HK9 : Hid _ := hK
                      clear hK
                      go_wp2_with fail
                      exact HK9.out _ _ ⟨x90, .pointer (some ⟨(W.heap.size + 1 + 1), 0, none⟩), .pointer (some ⟨(W.heap.size + 1 + 1), 0, none⟩), x93, x94, x95, x96, x97, x98, x99, x100, x101, x102, x103, by simp only [Act.put, List.setIfInBounds_toArray, List.set_cons_succ, List.set_cons_zero], ⟨HX.out.bel, fun h => HX.out.f0 (lset h (by decide)), fun h => HX.out.f1 (lset h (by decide)), fun _ => rfl, fun h => HX.out.f3 (lset h (by decide)), fun h => HX.out.f4 (lset h (by decide)), fun h => HX.out.f5 (lset h (by decide)), fun h => HX.out.f6 (lset h (by decide)), fun h => HX.out.f7 (lset h (by decide)), fun h => HX.out.f8 (lset h (by decide)), fun h => HX.out.f9 (lset h (by decide)), fun h => HX.out.f10 (lset h (by decide)), fun h => HX.out.f11 (lset h (by decide)), fun h => HX.out.f12 (lset h (by decide)), fun h => HX.out.f13 (lset h (by decide))⟩⟩
                    · have hJ := hoj
                      simp at hJ
                      have l2 : listed.getD 2 false = true := hall ⟨2, .data⟩ (by subst hJ; simp) rfl
                      obtain rfl := hx.f2 l2
                      have hc := cellB' hx.bel HE0.out
                      have HX : Hid _ := hx
                      have HI0 : Hid _ := hi0
                      clear hx hall hoj hJ hi hi0
                      simp only [List.setIfInBounds_toArray, List.set_cons_succ, List.set_cons_zero]
                      refine wpOp_step (o := _) rfl fun K' hK => ?_
                      rw [if_pos (by kernel_rfl)]
                      have HK9 : Hid _ := hK
                      clear hK
                      go_wp2_with fail
                      exact HK9.out _ _ ⟨x90, x91, .pointer (some ⟨(W.heap.size + 1 + 1), 0, none⟩), .int .i64 x.f0, x94, x95, x96, x97, x98, x99, x100, x101, x102, x103, by simp only [Act.put, List.setIfInBounds_toArray, List.set_cons_succ, List.set_cons_zero], ⟨HX.out.bel, fun h => HX.out.f0 (lset h (by decide)), fun h => HX.out.f1 (lset h (by decide)), fun h => HX.out.f2 (lset h (by decide)), fun _ => rfl, fun h => HX.out.f4 (lset h (by decide)), fun h => HX.out.f5 (lset h (by decide)), fun h => HX.out.f6 (lset h (by decide)), fun h => HX.out.f7 (lset h (by decide)), fun h => HX.out.f8 (lset h (by decide)), fun h => HX.out.f9 (lset h (by decide)), fun h => HX.out.f10 (lset h (by decide)), fun h => HX.out.f11 (lset h (by decide)), fun h => HX.out.f12 (lset h (by decide)), fun h => HX.out.f13 (lset h (by decide))⟩⟩
                    · have hJ := hoj
                      simp at hJ
                      have l3 : listed.getD 3 false = true := hall ⟨3, .data⟩ (by subst hJ; simp) rfl
                      obtain rfl := hx.f3 l3
                      have HX : Hid _ := hx
                      have HI0 : Hid _ := hi0
                      clear hx hall hoj hJ hi hi0
                      simp only [List.setIfInBounds_toArray, List.set_cons_succ, List.set_cons_zero]
                      refine wpOp_step (o := _) rfl fun K' hK => ?_
                      rw [if_pos (by kernel_rfl)]
                      have HK9 : Hid _ := hK
                      clear hK
                      go_wp2_with fail
                      exact HK9.out _ _ ⟨x90, x91, x92, .int .i64 x.f0, .bool q2, x95, x96, x97, x98, x99, x100, x101, x102, x103, by simp only [Act.put, List.setIfInBounds_toArray, List.set_cons_succ, List.set_cons_zero], ⟨HX.out.bel, fun h => HX.out.f0 (lset h (by decide)), fun h => HX.out.f1 (lset h (by decide)), fun h => HX.out.f2 (lset h (by decide)), fun h => HX.out.f3 (lset h (by decide)), fun _ => rfl, fun h => HX.out.f5 (lset h (by decide)), fun h => HX.out.f6 (lset h (by decide)), fun h => HX.out.f7 (lset h (by decide)), fun h => HX.out.f8 (lset h (by decide)), fun h => HX.out.f9 (lset h (by decide)), fun h => HX.out.f10 (lset h (by decide)), fun h => HX.out.f11 (lset h (by decide)), fun h => HX.out.f12 (lset h (by decide)), fun h => HX.out.f13 (lset h (by decide))⟩⟩
                    · have hJ := hoj
                      simp at hJ
                      have l4 : listed.getD 4 false = true := hall ⟨4, .data⟩ (by subst hJ; simp) rfl
                      obtain rfl := hx.f4 l4
                      have HX : Hid _ := hx
                      have HI0 : Hid _ := hi0
                      clear hx hall hoj hJ hi hi0
                      simp only [List.setIfInBounds_toArray, List.set_cons_succ, List.set_cons_zero]
                      refine wpOp_step (o := _) rfl fun K' hK => ?_
                      rw [if_pos (by kernel_rfl)]
                      have HK9 : Hid _ := hK
                      clear hK
                      go_wp2_with fail
                      exact HK9.out _ _ ⟨x90, x91, x92, x93, .bool q2, .bool q2, x96, x97, x98, x99, x100, x101, x102, x103, by simp only [Act.put, List.setIfInBounds_toArray, List.set_cons_succ, List.set_cons_zero], ⟨HX.out.bel, fun h => HX.out.f0 (lset h (by decide)), fun h => HX.out.f1 (lset h (by decide)), fun h => HX.out.f2 (lset h (by decide)), fun h => HX.out.f3 (lset h (by decide)), fun h => HX.out.f4 (lset h (by decide)), fun _ => rfl, fun h => HX.out.f6 (lset h (by decide)), fun h => HX.out.f7 (lset h (by decide)), fun h => HX.out.f8 (lset h (by decide)), fun h => HX.out.f9 (lset h (by decide)), fun h => HX.out.f10 (lset h (by decide)), fun h => HX.out.f11 (lset h (by decide)), fun h => HX.out.f12 (lset h (by decide)), fun h => HX.out.f13 (lset h (by decide))⟩⟩
                    · have hJ := hoj
                      simp at hJ
                      have l5 : listed.getD 5 false = true := hall ⟨5, .guard⟩ (by subst hJ; simp) rfl
                      cases q2 with
                      | true =>
                        obtain rfl := hx.f5 l5
                        have HX : Hid _ := hx
                        have HI0 : Hid _ := hi0
                        clear hx hall hoj hJ hi hi0
                        simp only [List.setIfInBounds_toArray, List.set_cons_succ, List.set_cons_zero]
                        refine wpOp_step (o := _) rfl fun K' hK => ?_
                        rw [if_pos (by kernel_rfl)]
                        have HK9 : Hid _ := hK
                        clear hK
                        go_wp2_with fail
                        exact HK9.out _ _ ⟨x90, x91, x92, x93, x94, .bool true, (.slice (some ⟨W.heap.size + 1 + 1, 0, none⟩) l.length l.length), x97, x98, x99, x100, x101, x102, x103, by simp only [Act.put, List.setIfInBounds_toArray, List.set_cons_succ, List.set_cons_zero], ⟨HX.out.bel, fun h => HX.out.f0 (lset h (by decide)), fun h => HX.out.f1 (lset h (by decide)), fun h => HX.out.f2 (lset h (by decide)), fun h => HX.out.f3 (lset h (by decide)), fun h => HX.out.f4 (lset h (by decide)), fun h => HX.out.f5 (lset h (by decide)), fun _ _ => rfl, fun h => HX.out.f7 (lset h (by decide)), fun h => HX.out.f8 (lset h (by decide)), fun h => HX.out.f9 (lset h (by decide)), fun h => HX.out.f10 (lset h (by decide)), fun h => HX.out.f11 (lset h (by decide)), fun h => HX.out.f12 (lset h (by decide)), fun h => HX.out.f13 (lset h (by decide))⟩⟩
                      | false =>
                        obtain rfl := hx.f5 l5
                        have HX : Hid _ := hx
                        have HI0 : Hid _ := hi0
                        clear hx hall hoj hJ hi hi0
                        simp only [List.setIfInBounds_toArray, List.set_cons_succ, List.set_cons_zero]
                        refine wpOp_step (o := _) rfl fun K' hK => ?_
                        rw [if_neg (ne_true_of_eq_false (by kernel_rfl))]
                        have HK9 : Hid _ := hK
                        clear hK
                        exact HK9.out _ _ ⟨x90, x91, x92, x93, x94, .bool false, undef, x97, x98, x99, x100, x101, x102, x103, by simp only [List.setIfInBounds_toArray, List.set_cons_succ, List.set_cons_zero]; rfl, ⟨HX.out.bel, fun h => HX.out.f0 (lset h (by decide)), fun h => HX.out.f1 (lset h (by decide)), fun h => HX.out.f2 (lset h (by decide)), fun h => HX.out.f3 (lset h (by decide)), fun h => HX.out.f4 (lset h (by decide)), fun h => HX.out.f5 (lset h (by decide)), fun _ hq => absurd hq (by decide), fun h => HX.out.f7 (lset h (by decide)), fun h => HX.out.f8 (lset h (by decide)), fun h => HX.out.f9 (lset h (by decide)), fun h => HX.out.f10 (lset h (by decide)), fun h => HX.out.f11 (lset h (by decide)), fun h => HX.out.f12 (lset h (by decide)), fun h => HX.out.f13 (lset h (by decide))⟩⟩
                    · have hJ := hoj
                      simp at hJ
                      have l5 : listed.getD 5 false = true := hall ⟨5, .guard⟩ (by subst hJ; simp) rfl
                      have l6 : listed.getD 6 false = true := hall ⟨6, .data⟩ (by subst hJ; simp) rfl
                      cases q2 with
                      | true =>
                        obtain rfl := hx.f5 l5
                        obtain rfl := hx.f6 l6 rfl
                        have HX : Hid _ := hx
                        have HI0 : Hid _ := hi0
                        clear hx hall hoj hJ hi hi0
                        simp only [List.setIfInBounds_toArray, List.set_cons_succ, List.set_cons_zero]
                        refine wpOp_step (o := _) rfl fun K' hK => ?_
                        rw [if_pos (by kernel_rfl)]
                        have HK9 : Hid _ := hK
                        clear hK
                        go_wp2_with fail
                        exact HK9.out _ _ ⟨x90, x91, x92, x93, x94, .bool true, (.slice (some ⟨W.heap.size + 1 + 1, 0, none⟩) l.length l.length), .pointer (some ⟨(W.heap.size + 1 + 1), 0, none⟩), x98, x99, x100, x101, x102, x103, by simp only [Act.put, List.setIfInBounds_toArray, List.set_cons_succ, List.set_cons_zero], ⟨HX.out.bel, fun h => HX.out.f0 (lset h (by decide)), fun h => HX.out.f1 (lset h (by decide)), fun h => HX.out.f2 (lset h (by decide)), fun h => HX.out.f3 (lset h (by decide)), fun h => HX.out.f4 (lset h (by decide)), fun h => HX.out.f5 (lset h (by decide)), fun h => HX.out.f6 (lset h (by decide)), fun _ _ => rfl, fun h => HX.out.f8 (lset h (by decide)), fun h => HX.out.f9 (lset h (by decide)), fun h => HX.out.f10 (lset h (by decide)), fun h => HX.out.f11 (lset h (by decide)), fun h => HX.out.f12 (lset h (by decide)), fun h => HX.out.f13 (lset h (by decide))⟩⟩
                      | false =>
                        obtain rfl := hx.f5 l5
                        have HX : Hid _ := hx
                        have HI0 : Hid _ := hi0
                        clear hx hall hoj hJ hi hi0
                        simp only [List.setIfInBounds_toArray, List.set_cons_succ, List.set_cons_zero]
                        refine wpOp_step (o := _) rfl fun K' hK => ?_
                        rw [if_neg (ne_true_of_eq_false (by kernel_rfl))]
                        have HK9 : Hid _ := hK
                        clear hK
                        exact HK9.out _ _ ⟨x90, x91, x92, x93, x94, .bool false, x96, undef, x98, x99, x100, x101, x102, x103, by simp only [List.setIfInBounds_toArray, List.set_cons_succ, List.set_cons_zero]; rfl, ⟨HX.out.bel, fun h => HX.out.f0 (lset h (by decide)), fun h => HX.out.f1 (lset h (by decide)), fun h => HX.out.f2 (lset h (by decide)), fun h => HX.out.f3 (lset h (by decide)), fun h => HX.out.f4 (lset h (by decide)), fun h => HX.out.f5 (lset h (by decide)), fun h => HX.out.f6 (lset h (by decide)), fun _ hq => absurd hq (by decide), fun h => HX.out.f8 (lset h (by decide)), fun h => HX.out.f9 (lset h (by decide)), fun h => HX.out.f10 (lset h (by decide)), fun h => HX.out.f11 (lset h (by decide)), fun h => HX.out.f12 (lset h (by decide)), fun h => HX.out.f13 (lset h (by decide))⟩⟩
                    · have hJ := hoj
                      simp at hJ
                      have l5 : listed.getD 5 false = true := hall ⟨5, .guard⟩ (by subst hJ; simp) rfl
                      have l7 : listed.getD 7 false = true := hall ⟨7, .data⟩ (by subst hJ; simp) rfl
                      cases q2 with
                      | true =>
                        obtain rfl := hx.f5 l5
                        obtain rfl := hx.f7 l7 rfl
                        have HX : Hid _ := hx
                        have HI0 : Hid _ := hi0
                        clear hx hall hoj hJ hi hi0
                        simp only [List.setIfInBounds_toArray, List.set_cons_succ, List.set_cons_zero]
                        refine wpOp_step (o := _) rfl fun K' hK => ?_
                        rw [if_pos (by kernel_rfl)]
                        have HK9 : Hid _ := hK
                        clear hK
                        go_wp2_with fail
                        exact HK9.out _ _ ⟨x90, x91, x92, x93, x94, .bool true, x96, .pointer (some ⟨(W.heap.size + 1 + 1), 0, none⟩), .pointer (some ⟨(W.heap.size + 1 + 1), 5, none⟩), x99, x100, x101, x102, x103, by simp only [Act.put, List.setIfInBounds_toArray, List.set_cons_succ, List.set_cons_zero], ⟨HX.out.bel, fun h => HX.out.f0 (lset h (by decide)), fun h => HX.out.f1 (lset h (by decide)), fun h => HX.out.f2 (lset h (by decide)), fun h => HX.out.f3 (lset h (by decide)), fun h => HX.out.f4 (lset h (by decide)), fun h => HX.out.f5 (lset h (by decide)), fun h => HX.out.f6 (lset h (by decide)), fun h => HX.out.f7 (lset h (by decide)), fun _ _ => rfl, fun h => HX.out.f9 (lset h (by decide)), fun h => HX.out.f10 (lset h (by decide)), fun h => HX.out.f11 (lset h (by decide)), fun h => HX.out.f12 (lset h (by decide)), fun h => HX.out.f13 (lset h (by decide))⟩⟩
                      | false =>
                        obtain rfl := hx.f5 l5
                        have HX : Hid _ := hx
                        have HI0 : Hid _ := hi0
                        clear hx hall hoj hJ hi hi0
                        simp only [List.setIfInBounds_toArray, List.set_cons_succ, List.set_cons_zero]
                        refine wpOp_step (o := _) rfl fun K' hK => ?_
                        rw [if_neg (ne_true_of_eq_false (by kernel_rfl))]
                        have HK9 : Hid _ := hK
                        clear hK
                        exact HK9.out _ _ ⟨x90, x91, x92, x93, x94, .bool false, x96, x97, undef, x99, x100, x101, x102, x103, by simp only [List.setIfInBounds_toArray, List.set_cons_succ, List.set_cons_zero]; rfl, ⟨HX.out.bel, fun h => HX.out.f0 (lset h (by decide)), fun h => HX.out.f1 (lset h (by decide)), fun h => HX.out.f2 (lset h (by decide)), fun h => HX.out.f3 (lset h (by decide)), fun h => HX.out.f4 (lset h (by decide)), fun h => HX.out.f5 (lset h (by decide)), fun h => HX.out.f6 (lset h (by decide)), fun h => HX.out.f7 (lset h (by decide)), fun _ hq => absurd hq (by decide), fun h => HX.out.f9 (lset h (by decide)), fun h => HX.out.f10 (lset h (by decide)), fun h => HX.out.f11 (lset h (by decide)), fun h => HX.out.f12 (lset h (by decide)), fun h => HX.out.f13 (lset h (by decide))⟩⟩
                    · have hJ := hoj
                      simp at hJ
                      have l5 : listed.getD 5 false = true := hall ⟨5, .guard⟩ (by subst hJ; simp) rfl
                      have l8 : listed.getD 8 false = true := hall ⟨8, .data⟩ (by subst hJ; simp) rfl
                      cases q2 with
                      | true =>
                        obtain rfl := hx.f5 l5
                        obtain rfl := hx.f8 l8 rfl
                        have hc := cellB' hx.bel HE5.out
                        have HX : Hid _ := hx
                        have HI0 : Hid _ := hi0
                        clear hx hall hoj hJ hi hi0
                        simp only [List.setIfInBounds_toArray, List.set_cons_succ, List.set_cons_zero]
                        refine wpOp_step (o := _) rfl fun K' hK => ?_
                        rw [if_pos (by kernel_rfl)]
                        have HK9 : Hid _ := hK
                        clear hK
                        go_wp2_with fail
                        exact HK9.out _ _ ⟨x90, x91, x92, x93, x94, .bool true, x96, x97, .pointer (some ⟨(W.heap.size + 1 + 1), 5, none⟩), .int .i64 x.f3, x100, x101, x102, x103, by simp only [Act.put, List.setIfInBounds_toArray, List.set_cons_succ, List.set_cons_zero], ⟨HX.out.bel, fun h => HX.out.f0 (lset h (by decide)), fun h => HX.out.f1 (lset h (by decide)), fun h => HX.out.f2 (lset h (by decide)), fun h => HX.out.f3 (lset h (by decide)), fun h => HX.out.f4 (lset h (by decide)), fun h => HX.out.f5 (lset h (by decide)), fun h => HX.out.f6 (lset h (by decide)), fun h => HX.out.f7 (lset h (by decide)), fun h => HX.out.f8 (lset h (by decide)), fun _ _ => rfl, fun h => HX.out.f10 (lset h (by decide)), fun h => HX.out.f11 (lset h (by decide)), fun h => HX.out.f12 (lset h (by decide)), fun h => HX.out.f13 (lset h (by decide))⟩⟩
                      | false =>
                        obtain rfl := hx.f5 l5
                        have HX : Hid _ := hx
                        have HI0 : Hid _ := hi0
                        clear hx hall hoj hJ hi hi0
                        simp only [List.setIfInBounds_toArray, List.set_cons_succ, List.set_cons_zero]
                        refine wpOp_step (o := _) rfl fun K' hK => ?_
                        rw [if_neg (ne_true_of_eq_false (by kernel_rfl))]
                        have HK9 : Hid _ := hK
                        clear hK
                        exact HK9.out _ _ ⟨x90, x91, x92, x93, x94, .bool false, x96, x97, x98, undef, x100, x101, x102, x103, by simp only [List.setIfInBounds_toArray, List.set_cons_succ, List.set_cons_zero]; rfl, ⟨HX.out.bel, fun h => HX.out.f0 (lset h (by decide)), fun h => HX.out.f1 (lset h (by decide)), fun h => HX.out.f2 (lset h (by decide)), fun h => HX.out.f3 (lset h (by decide)), fun h => HX.out.f4 (lset h (by decide)), fun h => HX.out.f5 (lset h (by decide)), fun h => HX.out.f6 (lset h (by decide)), fun h => HX.out.f7 (lset h (by decide)), fun h => HX.out.f8 (lset h (by decide)), fun _ hq => absurd hq (by decide), fun h => HX.out.f10 (lset h (by decide)), fun h => HX.out.f11 (lset h (by decide)), fun h => HX.out.f12 (lset h (by decide)), fun h => HX.out.f13 (lset h (by decide))⟩⟩
                    · have hJ := hoj
                      simp at hJ
                      have l5 : listed.getD 5 false = true := hall ⟨5, .guard⟩ (by subst hJ; simp) rfl
                      cases q2 with
                      | true =>
                        obtain rfl := hx.f5 l5
                        have HX : Hid _ := hx
                        have HI0 : Hid _ := hi0
                        clear hx hall hoj hJ hi hi0
                        simp only [List.setIfInBounds_toArray, List.set_cons_succ, List.set_cons_zero]
                        refine wpOp_step (o := _) rfl fun K' hK => ?_
                        rw [if_pos (by kernel_rfl)]
                        have HK9 : Hid _ := hK
                        clear hK
                        go_wp2_with fail
                        exact HK9.out _ _ ⟨x90, x91, x92, x93, x94, .bool true, x96, x97, x98, x99, .pointer (some ⟨W.heap.size, 5, none⟩), x101, x102, x103, by simp only [Act.put, List.setIfInBounds_toArray, List.set_cons_succ, List.set_cons_zero], ⟨HX.out.bel, fun h => HX.out.f0 (lset h (by decide)), fun h => HX.out.f1 (lset h (by decide)), fun h => HX.out.f2 (lset h (by decide)), fun h => HX.out.f3 (lset h (by decide)), fun h => HX.out.f4 (lset h (by decide)), fun h => HX.out.f5 (lset h (by decide)), fun h => HX.out.f6 (lset h (by decide)), fun h => HX.out.f7 (lset h (by decide)), fun h => HX.out.f8 (lset h (by decide)), fun h => HX.out.f9 (lset h (by decide)), fun _ _ => rfl, fun h => HX.out.f11 (lset h (by decide)), fun h => HX.out.f12 (lset h (by decide)), fun h => HX.out.f13 (lset h (by decide))⟩⟩
                      | false =>
                        obtain rfl := hx.f5 l5
                        have HX : Hid _ := hx
                        have HI0 : Hid _ := hi0
                        clear hx hall hoj hJ hi hi0
                        simp only [List.setIfInBounds_toArray, List.set_cons_succ, List.set_cons_zero]
                        refine wpOp_step (o := _) rfl fun K' hK => ?_
                        rw [if_neg (ne_true_of_eq_false (by kernel_rfl))]
                        have HK9 : Hid _ := hK
                        clear hK
                        exact HK9.out _ _ ⟨x90, x91, x92, x93, x94, .bool false, x96, x97, x98, x99, undef, x101, x102, x103, by simp only [List.setIfInBounds_toArray, List.set_cons_succ, List.set_cons_zero]; rfl, ⟨HX.out.bel, fun h => HX.out.f0 (lset h (by decide)), fun h => HX.out.f1 (lset h (by decide)), fun h => HX.out.f2 (lset h (by decide)), fun h => HX.out.f3 (lset h (by decide)), fun h => HX.out.f4 (lset h (by decide)), fun h => HX.out.f5 (lset h (by decide)), fun h => HX.out.f6 (lset h (by decide)), fun h => HX.out.f7 (lset h (by decide)), fun h => HX.out.f8 (lset h (by decide)), fun h => HX.out.f9 (lset h (by decide)), fun _ hq => absurd hq (by decide), fun h => HX.out.f11 (lset h (by decide)), fun h => HX.out.f12 (lset h (by decide)), fun h => HX.out.f13 (lset h (by decide))⟩⟩
                    · have hJ := hoj
                      simp at hJ
                      have l5 : listed.getD 5 false = true := hall ⟨5, .guard⟩ (by subst hJ; simp) rfl
                      have l10 : listed.getD 10 false = true := hall ⟨10, .data⟩ (by subst hJ; simp) rfl
                      cases q2 with
                      | true =>
                        obtain rfl := hx.f5 l5
                        obtain rfl := hx.f10 l10 rfl
                        have hc := cellB' hx.bel HC5W.out
                        have HX : Hid _ := hx
                        have HI0 : Hid _ := hi0
                        clear hx hall hoj hJ hi hi0
                        simp only [List.setIfInBounds_toArray, List.set_cons_succ, List.set_cons_zero]
                        refine wpOp_step (o := _) rfl fun K' hK => ?_
                        rw [if_pos (by kernel_rfl)]
                        have HK9 : Hid _ := hK
                        clear hK
                        go_wp2_with fail
                        exact HK9.out _ _ ⟨x90, x91, x92, x93, x94, .bool true, x96, x97, x98, x99, .pointer (some ⟨W.heap.size, 5, none⟩), .int .i64 (n : Int), x102, x103, by simp only [Act.put, List.setIfInBounds_toArray, List.set_cons_succ, List.set_cons_zero], ⟨HX.out.bel, fun h => HX.out.f0 (lset h (by decide)), fun h => HX.out.f1 (lset h (by decide)), fun h => HX.out.f2 (lset h (by decide)), fun h => HX.out.f3 (lset h (by decide)), fun h => HX.out.f4 (lset h (by decide)), fun h => HX.out.f5 (lset h (by decide)), fun h => HX.out.f6 (lset h (by decide)), fun h => HX.out.f7 (lset h (by decide)), fun h => HX.out.f8 (lset h (by decide)), fun h => HX.out.f9 (lset h (by decide)), fun h => HX.out.f10 (lset h (by decide)), fun _ _ => rfl, fun h => HX.out.f12 (lset h (by decide)), fun h => HX.out.f13 (lset h (by decide))⟩⟩
                      | false =>
                        obtain rfl := hx.f5 l5
                        have HX : Hid _ := hx
                        have HI0 : Hid _ := hi0
                        clear hx hall hoj hJ hi hi0
                        simp only [List.setIfInBounds_toArray, List.set_cons_succ, List.set_cons_zero]
                        refine wpOp_step (o := _) rfl fun K' hK => ?_
                        rw [if_neg (ne_true_of_eq_false (by kernel_rfl))]
                        have HK9 : Hid _ := hK
                        clear hK
                        exact HK9.out _ _ ⟨x90, x91, x92, x93, x94, .bool false, x96, x97, x98, x99, x100, undef, x102, x103, by simp only [List.setIfInBounds_toArray, List.set_cons_succ, List.set_cons_zero]; rfl, ⟨HX.out.bel, fun h => HX.out.f0 (lset h (by decide)), fun h => HX.out.f1 (lset h (by decide)), fun h => HX.out.f2 (lset h (by decide)), fun h => HX.out.f3 (lset h (by decide)), fun h => HX.out.f4 (lset h (by decide)), fun h => HX.out.f5 (lset h (by decide)), fun h => HX.out.f6 (lset h (by decide)), fun h => HX.out.f7 (lset h (by decide)), fun h => HX.out.f8 (lset h (by decide)), fun h => HX.out.f9 (lset h (by decide)), fun h => HX.out.f10 (lset h (by decide)), fun _ hq => absurd hq (by decide), fun h => HX.out.f12 (lset h (by decide)), fun h => HX.out.f13 (lset h (by decide))⟩⟩
                    · have hJ := hoj
                      simp at hJ
                      have l5 : listed.getD 5 false = true := hall ⟨5, .guard⟩ (by subst hJ; simp) rfl
                      have l9 : listed.getD 9 false = true := hall ⟨9, .data⟩ (by subst hJ; simp) rfl
                      have l11 : listed.getD 11 false = true := hall ⟨11, .data⟩ (by subst hJ; simp) rfl
                      cases q2 with
                      | true =>
                        obtain rfl := hx.f5 l5
                        obtain rfl := hx.f9 l9 rfl
                        obtain rfl := hx.f11 l11 rfl
                        have HX : Hid _ := hx
                        have HI0 : Hid _ := hi0
                        clear hx hall hoj hJ hi hi0
                        simp only [List.setIfInBounds_toArray, List.set_cons_succ, List.set_cons_zero]
                        refine wpOp_step (o := _) rfl fun K' hK => ?_
                        rw [if_pos (by kernel_rfl)]
                        have HK9 : Hid _ := hK
                        clear hK
                        go_wp2_with fail
                        exact HK9.out _ _ ⟨x90, x91, x92, x93, x94, .bool true, x96, x97, x98, .int .i64 x.f3, x100, .int .i64 (n : Int), .bool ob2, x103, by simp only [Act.put, List.setIfInBounds_toArray, List.set_cons_succ, List.set_cons_zero], ⟨HX.out.bel, fun h => HX.out.f0 (lset h (by decide)), fun h => HX.out.f1 (lset h (by decide)), fun h => HX.out.f2 (lset h (by decide)), fun h => HX.out.f3 (lset h (by decide)), fun h => HX.out.f4 (lset h (by decide)), fun h => HX.out.f5 (lset h (by decide)), fun h => HX.out.f6 (lset h (by decide)), fun h => HX.out.f7 (lset h (by decide)), fun h => HX.out.f8 (lset h (by decide)), fun h => HX.out.f9 (lset h (by decide)), fun h => HX.out.f10 (lset h (by decide)), fun h => HX.out.f11 (lset h (by decide)), fun _ _ => rfl, fun h => HX.out.f13 (lset h (by decide))⟩⟩
                      | false =>
                        obtain rfl := hx.f5 l5
                        have HX : Hid _ := hx
                        have HI0 : Hid _ := hi0
                        clear hx hall hoj hJ hi hi0
                        simp only [List.setIfInBounds_toArray, List.set_cons_succ, List.set_cons_zero]
                        refine wpOp_step (o := _) rfl fun K' hK => ?_
                        rw [if_neg (ne_true_of_eq_false (by kernel_rfl))]
                        have HK9 : Hid _ := hK
                        clear hK
                        exact HK9.out _ _ ⟨x90, x91, x92, x93, x94, .bool false, x96, x97, x98, x99, x100, x101, undef, x103, by simp only [List.setIfInBounds_toArray, List.set_cons_succ, List.set_cons_zero]; rfl, ⟨HX.out.bel, fun h => HX.out.f0 (lset h (by decide)), fun h => HX.out.f1 (lset h (by decide)), fun h => HX.out.f2 (lset h (by decide)), fun h => HX.out.f3 (lset h (by decide)), fun h => HX.out.f4 (lset h (by decide)), fun h => HX.out.f5 (lset h (by decide)), fun h => HX.out.f6 (lset h (by decide)), fun h => HX.out.f7 (lset h (by decide)), fun h => HX.out.f8 (lset h (by decide)), fun h => HX.out.f9 (lset h (by decide)), fun h => HX.out.f10 (lset h (by decide)), fun h => HX.out.f11 (lset h (by decide)), fun _ hq => absurd hq (by decide), fun h => HX.out.f13 (lset h (by decide))⟩⟩
                    · have hJ := hoj
                      simp at hJ
                      have l5 : listed.getD 5 false = true := hall ⟨5, .data⟩ (by subst hJ; simp) rfl
                      have l12 : listed.getD 12 false = true := hall ⟨12, .data⟩ (by subst hJ; simp) rfl
                      cases q2 with
                      | true =>
                        obtain rfl := hx.f5 l5
                        obtain rfl := hx.f12 l12 rfl
                        have HX : Hid _ := hx
                        have HI0 : Hid _ := hi0
                        clear hx hall hoj hJ hi hi0
                        simp only [List.setIfInBounds_toArray, List.set_cons_succ, List.set_cons_zero]
                        refine wpOp_step (o := _) rfl fun K' hK => ?_
                        rw [if_pos (by kernel_rfl)]
                        have HK9 : Hid _ := hK
                        clear hK
                        go_wp2_with fail
                        exact HK9.out _ _ ⟨x90, x91, x92, x93, x94, .bool true, x96, x97, x98, x99, x100, x101, .bool ob2, .bool ob2, by simp only [Act.put, List.setIfInBounds_toArray, List.set_cons_succ, List.set_cons_zero], ⟨HX.out.bel, fun h => HX.out.f0 (lset h (by decide)), fun h => HX.out.f1 (lset h (by decide)), fun h => HX.out.f2 (lset h (by decide)), fun h => HX.out.f3 (lset h (by decide)), fun h => HX.out.f4 (lset h (by decide)), fun h => HX.out.f5 (lset h (by decide)), fun h => HX.out.f6 (lset h (by decide)), fun h => HX.out.f7 (lset h (by decide)), fun h => HX.out.f8 (lset h (by decide)), fun h => HX.out.f9 (lset h (by decide)), fun h => HX.out.f10 (lset h (by decide)), fun h => HX.out.f11 (lset h (by decide)), fun h => HX.out.f12 (lset h (by decide)), fun _ => rfl⟩⟩
                      | false =>
                        obtain rfl := hx.f5 l5
                        have HX : Hid _ := hx
                        have HI0 : Hid _ := hi0
                        clear hx hall hoj hJ hi hi0
                        simp only [List.setIfInBounds_toArray, List.set_cons_succ, List.set_cons_zero]
                        refine wpOp_step (o := _) rfl fun K' hK => ?_
                        rw [if_pos (by kernel_rfl)]
                        have HK9 : Hid _ := hK
                        clear hK
                        go_wp2_with fail
                        exact HK9.out _ _ ⟨x90, x91, x92, x93, x94, .bool false, x96, x97, x98, x99, x100, x101, x102, .bool false, by simp only [Act.put, List.setIfInBounds_toArray, List.set_cons_succ, List.set_cons_zero], ⟨HX.out.bel, fun h => HX.out.f0 (lset h (by decide)), fun h => HX.out.f1 (lset h (by decide)), fun h => HX.out.f2 (lset h (by decide)), fun h => HX.out.f3 (lset h (by decide)), fun h => HX.out.f4 (lset h (by decide)), fun h => HX.out.f5 (lset h (by decide)), fun h => HX.out.f6 (lset h (by decide)), fun h => HX.out.f7 (lset h (by decide)), fun h => HX.out.f8 (lset h (by decide)), fun h => HX.out.f9 (lset h (by decide)), fun h => HX.out.f10 (lset h (by decide)), fun h => HX.out.f11 (lset h (by decide)), fun h => HX.out.f12 (lset h (by decide)), fun _ => rfl⟩⟩
                  · rintro a' WX ⟨x90, x91, x92, x93, x94, x95, x96, x97, x98, x99, x100, x101, x102, x103, rfl, hx⟩
                    have hlast := hx.f13 (by simp)
                    have HBX : Hid (Below WW.heap.size WW WX) := hx.bel
                    clear hx
                    subst hlast
                    simp only [List.setIfInBounds_toArray, List.set_cons_succ, List.set_cons_zero]
                    have HHX : Hid _ := bk HBX.out HH9.out
                    have HRX : Hid _ := bk HBX.out HR9.out
                    have HBWX : Hid _ := bt HBW.out HBX.out
                    have z2 := HRX.out
                    have yc0 := blk_cell z2 0 rfl
                    have yf0 := blk_free z2 0
                    have yc1 := blk_cell z2 1 rfl
                    have yf1 := blk_free z2 1
                    have yc2 := blk_cell z2 2 rfl
                    have yf2 := blk_free z2 2
                    have yc3 := blk_cell z2 3 rfl
                    have yf3 := blk_free z2 3
                    have yc4 := blk_cell z2 4 rfl
                    have yf4 := blk_free z2 4
                    have yc5 := blk_cell z2 5 rfl
                    have yf5 := blk_free z2 5
                    have yc6 := blk_cell z2 6 rfl
                    have yf6 := blk_free z2 6
                    have z := HHX.out
                    have zc0 := blk_cell z 0 rfl
                    have zc1 := blk_cell z 1 rfl
                    have zc2 := blk_cell z 2 rfl
                    have zc3 := blk_cell z 3 rfl
                    have zc4 := blk_cell z 4 rfl
                    have zc5 := blk_cell z 5 rfl
                    have zc6 := blk_cell z 6 rfl
                    clear z z2
                    cases hqo2 : (q2 && ob2) with
                    | true =>
                      obtain ⟨hqa, hqb⟩ := (Bool.and_eq_true _ _).mp hqo2
                      subst hqa
                      subst hqb
                      obtain ⟨y, hy, hoky⟩ := okT_unary HOKx.out (of_decide_eq_true hq2) (of_decide_eq_true hob2) (by have := HU.out; omega)
                      have hx4 : x.f4 = [y] := by rw [hy]
                      obtain ⟨b3, o3, A3, c3, rfl, hbS, hc3, hr3, d0, d1, d2, d3, d4, d5, d6⟩ := ScRow.get HR1.out (i := 0) (x := y) (by rw [hx4]; rfl)
                      simp only [Nat.zero_mul, Nat.add_zero] at d0 d1 d2 d3 d4 d5 d6
                      have e6 := cellB' HBX.out HE6.out
                      have g0 := cellB' HBX.out d0
                      have g1 := cellB' HBX.out d1
                      have g2 := cellB' HBX.out d2
                      have g3 := cellB' HBX.out d3
                      have g4 := cellB' HBX.out d4
                      have g5 := cellB' HBX.out d5
                      have g6 := cellB' HBX.out d6
                      have hx5 : (0 : Int) < (x.f4.length : Int) := by rw [hx4]; simp
                      have HR3 : Hid _ := hr3
                      have HX4 : Hid _ := hx4
                      have HQ : Hid (x.f0 = 2 ∧ x.f3 = (n : Int)) := ⟨of_decide_eq_true hq2, of_decide_eq_true hob2⟩
                      clear d0 d1 d2 d3 d4 d5 d6 hy hoky hx4 hr3 hbS hq2 hob2 hqo2
                      go_wp2_with fail
                      rw [set7 HRX.out]
                      refine bodyPost_ret (ret1 Tryz.results63 rfl (setRow_heap _ _ _ _ _ _ HRX.out) Tryz.isAgg26 Tryz.sizeOf26) rfl ⟨FoldR_mk (r := y) (A := A3) (c := c3) ?_ hc3 ?_, bsr HBWX.out (by omega) _⟩
                      · rw [HRu'.out, Pu.rule, if_neg HNo'.out, if_neg (by have := HU.out; omega), if_pos ⟨by have := HU.out; omega, HQ.out⟩]
                        show x.f4.headD scz = y
                        rw [HX4.out]; rfl
                      · exact ScRow.move HR3.out fun b hb => ⟨by have h1 := HSub9.out b hb; have h2 := HBX.out.size; rw [setRow_size]; omega, (setRow_other _ _ _ _ (by have h1 := (HSub9.out b hb).1; omega)).trans (HBX.out.block b (HSub9.out b hb).2)⟩
                    | false =>
                      have HQ : Hid (¬ (x.f0 = 2 ∧ x.f3 = (n : Int))) := fun h => by rw [← hq2, ← hob2, h.1, h.2] at hqo2; simp at hqo2
                      clear hq2 hob2 hqo2
                      go_wp2_with fail
                      rw [set7 HRX.out]
                      refine bodyPost_ret (ret1 Tryz.results63 rfl (setRow_heap _ _ _ _ _ _ HRX.out) Tryz.isAgg26 Tryz.sizeOf26) rfl ⟨FoldR_mk' (r := ⟨k0, 0, vz, n, ls⟩) (A := some ⟨W.heap.size + 1 + 1, 0, none⟩) (c := l.length) (N := l.length) ?_ HLL.out (Nat.le_of_eq HLL.out) ?_, bsr HBWX.out (by omega) _⟩
                      · rw [HRu'.out, Pu.rule, if_neg HNo'.out, if_neg (by have := HU.out; omega), if_neg (fun h => HQ.out h.2), HXY.out, H2.out]
                      · exact ScRow.move HRow9.out fun b hb => ⟨by have h1 := HSub9.out b hb; have h2 := HBX.out.size; rw [setRow_size]; omega, (setRow_other _ _ _ _ (by have h1 := (HSub9.out b hb).1; omega)).trans (HBX.out.block b (HSub9.out b hb).2)⟩
              · have hi3 : ((n : Int) == 13) = false := by simp; omega
                have hi4 : ((n : Int) == 3) = false := by simp; omega
                have HU : Hid (¬ (n = 13 ∨ n = 3) ∧ ¬ (n = 11 ∨ n = 12)) := ⟨hu, h11⟩
                have HRX : Hid _ := HR9.out
                have HBX : Hid _ := Below.refl WW.heap.size WW
                have HBWX : Hid _ := HBW.out
                have z2 := HRX.out
                have yc0 := blk_cell z2 0 rfl
                have yf0 := blk_free z2 0
                have yc1 := blk_cell z2 1 rfl
                have yf1 := blk_free z2 1
                have yc2 := blk_cell z2 2 rfl
                have yf2 := blk_free z2 2
                have yc3 := blk_cell z2 3 rfl
                have yf3 := blk_free z2 3
                have yc4 := blk_cell z2 4 rfl
                have yf4 := blk_free z2 4
                have yc5 := blk_cell z2 5 rfl
                have yf5 := blk_free z2 5
                have yc6 := blk_cell z2 6 rfl
                have yf6 := blk_free z2 6
                clear z2 hu h11
                go_wp2_with fail
                rw [set7 HRX.out]
                refine bodyPost_ret (ret1 Tryz.results63 rfl (setRow_heap _ _ _ _ _ _ HRX.out) Tryz.isAgg26 Tryz.sizeOf26) rfl ⟨FoldR_mk' (r := ⟨k0, 0, vz, n, ls⟩) (A := some ⟨W.heap.size + 1 + 1, 0, none⟩) (c := l.length) (N := l.length) ?_ HLL.out (Nat.le_of_eq HLL.out) ?_, bsr HBWX.out (by omega) _⟩
                · rw [HRu.out, Pu.rule, if_neg HNo.out, if_neg (by have := HU.out; omega), if_neg (fun h => by have := HU.out; have := h.1; omega), H2.out]
                · exact ScRow.move HRow9.out fun b hb => ⟨by have h1 := HSub9.out b hb; have h2 := HBX.out.size; rw [setRow_size]; omega, (setRow_other _ _ _ _ (by have h1 := (HSub9.out b hb).1; omega)).trans (HBX.out.block b (HSub9.out b hb).2)⟩
  · have h2' : (k0 != 2) = true := by simp [h2]
    have H2 : Hid (¬ k0 = 2) := h2
    clear h2
    go_enter Tryz.func63, Tryz.ntmps63
    go_wp2_with fail
    refine bodyPost_ret (ret1 Tryz.results63 rfl (alloc_at (by simp)) Tryz.isAgg26 Tryz.sizeOf26) rfl ⟨⟨A, c, ?_, ?_, ?_⟩, ba (ba (Below.refl _ _) _) _⟩
    · rw [Pu.fold, if_pos H2.out]
    · rw [Pu.fold, if_pos H2.out]; exact hc
    · rw [Pu.fold, if_pos H2.out]
      exact hr.move fun b hb => ⟨.inl hb, (((Below.refl _ _).alloc hB0 _).alloc (by simp; omega) _).block b hb⟩
end Go.Proofs.YtemedepjmnncbaaGreatDoor
