import Derived.Test.YtemedepjmnncbaaGreatDoorA11
namespace Go.Proofs.YtemedepjmnncbaaGreatDoor
set_option linter.unusedVariables false
set_option linter.unusedSimpArgs false
open Go.RowKit Go.Shelf Pu

/-! slices.ContainsFunc at whole numbers. -/
theorem IntRow.low {B B' : Nat} {w w' : World} {A : Option Addr} {l : List Int} (h : IntRow (· < B) w A l) (hb : Below B w w') (hB : B ≤ B') : IntRow (· < B') w' A l := IntRow.move h fun b hb' => ⟨by omega, hb.block b hb'⟩
theorem any_take {l : List Int} {p : Int → Bool} {k : Nat} {x : Int} (hx : l[k]? = some x) (h : (l.take k).any p = false) : (l.take (k + 1)).any p = p x := by
  obtain ⟨hk, rfl⟩ := List.getElem?_eq_some_iff.1 hx
  rw [← List.take_append_getElem hk, List.any_append, h]; simp
def PrI (B : Nat) (g : Nat) (lb : Array Value) (p : Int → Bool) (w : World) (l : List Int) : Prop :=
  ∀ i ∈ l, ∀ W, Below B w W → B ≤ W.heap.size → Calls Tryz.prog g (#[.int .i64 i] ++ lb) W fun e W' => e = .returned (.bool (p i)) ∧ Below W.heap.size W W'
set_option maxHeartbeats 1000000 in
theorem IndexFunc_c (l : List Int) (A : Option Addr) (c g : Nat) (lb : Array Value) (p : Int → Bool) (w : World) (eg : ∀ args w, (callFunc g args).run Tryz.prog w = .ok (.enter g args) w) (hp : PrI w.heap.size g lb p w l) (hr : IntRow (· < w.heap.size) w A l) :
    Calls Tryz.prog 85 #[.slice A l.length c, .func (.func g) #[] lb] w fun e w' => ∃ i : Int, e = .returned (.int .i64 i) ∧ Hid (decide (0 ≤ i) = l.any p) ∧ Below w.heap.size w w' := by
  have hlen := hr.1
  go_enter Tryz.func85, Tryz.ntmps85
  go_wp2_with fail
  go_loopg [8] l.length (fun gg s8 wr => ∃ kk : Nat, kk ≤ l.length ∧ l.length - kk ≤ gg ∧ s8 = .int .i64 kk ∧ Hid ((l.take kk).any p = false) ∧ Hid (Below w.heap.size w wr))
  case atStart => exact ⟨0, Nat.zero_le _, by omega, rfl, by simp [Hid], Below.refl _ _⟩
  case round =>
    obtain ⟨kk, hkk, hg, rfl, HA, HB⟩ := hrel
    by_cases hlt : kk < l.length
    · have hx := List.getElem?_eq_getElem hlt
      obtain ⟨b, o, rfl, hbS, e0⟩ := (IntRow.below hr HB.out).get hx
      have hpx := hp l[kk] (List.getElem_mem _) wr HB.out HB.out.size
      have HX : Hid (l[kk]? = some l[kk]) := hx
      clear hx
      generalize l[kk] = x at *
      have HP : Hid _ := hpx
      clear hpx
      go_wp2_with fail
      refine Calls.mono HP.out ?_
      rintro e w1 ⟨rfl, hb⟩
      have HB1 : Hid _ := hb
      clear hb
      have HT : Hid _ := any_take HX.out HA.out
      cases hpx : p x with
      | true =>
        have HP1 : Hid _ := hpx
        clear hpx
        go_wp2_with fail
        go_ret
        refine ⟨_, rfl, ?_, bt HB.out HB1.out⟩
        have h1 := HT.out
        rw [HP1.out] at h1
        have : l.any p = true := by
          rw [List.any_eq_true] at h1 ⊢
          obtain ⟨y, hy, h2⟩ := h1
          exact ⟨y, List.mem_of_mem_take hy, h2⟩
        rw [Hid, this]; simp
      | false =>
        have HP1 : Hid _ := hpx
        clear hpx
        go_wp2_with fail
        go_roundg (l.length - (kk + 1))
        case measure => omega
        case rel => exact ⟨kk + 1, by omega, by omega, by go_num, by rw [Hid, HT.out, HP1.out], bt HB.out HB1.out⟩
    · have : kk = l.length := by omega
      subst this
      go_wp2_with fail
      go_ret
      refine ⟨_, rfl, ?_, HB.out⟩
      have := HA.out
      rw [List.take_length] at this
      rw [Hid, this]; rfl
set_option maxHeartbeats 1000000 in
theorem ContainsFunc_c (l : List Int) (A : Option Addr) (c g : Nat) (lb : Array Value) (p : Int → Bool) (w : World) (eg : ∀ args w, (callFunc g args).run Tryz.prog w = .ok (.enter g args) w) (hp : PrI w.heap.size g lb p w l) (hr : IntRow (· < w.heap.size) w A l) :
    Calls Tryz.prog 47 #[.slice A l.length c, .func (.func g) #[] lb] w fun e w' => e = .returned (.bool (l.any p)) ∧ Below w.heap.size w w' := by
  have hi := IndexFunc_c l A c g lb p w eg hp hr
  have HI : Hid _ := hi
  have hlen := hr.1
  clear hi hp hr eg
  go_enter Tryz.func47, Tryz.ntmps47
  go_wp2_with fail
  refine Calls.mono HI.out ?_
  rintro e w1 ⟨i, rfl, HA, hb⟩
  have HB : Hid _ := hb
  clear hb
  go_wp2_with fail
  go_ret
  exact ⟨ret_bool (by rw [← HA.out]), HB.out⟩

/-! Types. -/
abbrev CoRow (S : Nat → Prop) (w : World) (A : Option Addr) (l : List Co) : Prop := Row coR 2 S w A l
theorem CoRow.get {S : Nat → Prop} {w : World} {A : Option Addr} {l : List Co} (h : CoRow S w A l) {i : Nat} {x : Co} (hx : l[i]? = some x) :
    ∃ b o, A = some ⟨b, o, none⟩ ∧ S b ∧ w.cell? ⟨b, o + i * 2, none⟩ = some (.string x.f0) ∧ w.cell? ⟨b, o + i * 2 + 1, none⟩ = some (.int .i64 x.f1) := by
  obtain ⟨b, o, cs, e, hb, h1, h2⟩ := Row.get h hx
  rw [h1] at h2
  exact ⟨b, o, e, hb, h2 0 _ rfl, h2 1 _ rfl⟩
theorem CoRow.low {B B' : Nat} {w w' : World} {A : Option Addr} {l : List Co} (h : CoRow (· < B) w A l) (hb : Below B w w') (hB : B ≤ B') : CoRow (· < B') w' A l := Row.move h (fun _ _ h => h) fun b hb' => ⟨by omega, hb.block b hb'⟩
set_option maxHeartbeats 400000 in
theorem Type1_c (i : Int) (B n c : Nat) (A : Option Addr) (w : World) (hn : n ≤ 9223372036854775807) (hb : w.heap[B]? = some (Obj.cells #[.slice A n c] 27 (0, 0))) :
    Calls Tryz.prog 48 #[.int .i64 i, .pointer (some ⟨B, 0, none⟩)] w fun e w' => e = .returned (.bool (decide (i ≥ (n : Int)))) ∧ Below w.heap.size w w' := by
  have c0 := blk_cell hb 0 rfl
  clear hb
  go_enter Tryz.func48, Tryz.ntmps48
  go_wp2
  go_ret
  exact ⟨ret_bool (by simp), Below.refl _ _⟩
def TypeO (o : Option Int) (k : Int) (b : Bool) : Prop := match o with | some u => k = u ∧ b = true | none => b = false
theorem TypeO.no {o : Option Int} {k : Int} (h : TypeO o k false) : o = none := by cases o with | none => rfl | some u => exact absurd h.2 (by simp)
theorem TypeO.yes {o : Option Int} {k : Int} (h : TypeO o k true) : o = some k := by cases o with | none => exact absurd h (by simp [TypeO]) | some u => rw [h.1]
theorem cells5 {W : World} {g t : Nat} {a b c d e : Value} (h : W.heap[g]? = some (Obj.cells #[a, b, c, d, e] t (0, 0))) :
    W.cell? ⟨g, 0, none⟩ = some a ∧ W.cell? ⟨g, 1, none⟩ = some b ∧ W.cell? ⟨g, 2, none⟩ = some c ∧ W.cell? ⟨g, 3, none⟩ = some d ∧ W.cell? ⟨g, 4, none⟩ = some e ∧ W.frozen? ⟨g, 0, none⟩ = false ∧ W.frozen? ⟨g, 1, none⟩ = false ∧ W.frozen? ⟨g, 2, none⟩ = false ∧ W.frozen? ⟨g, 3, none⟩ = false ∧ W.frozen? ⟨g, 4, none⟩ = false :=
  ⟨blk_cell h 0 rfl, blk_cell h 1 rfl, blk_cell h 2 rfl, blk_cell h 3 rfl, blk_cell h 4 rfl, blk_free h 0, blk_free h 1, blk_free h 2, blk_free h 3, blk_free h 4⟩
def TyRes (o : Option Int) (e : Ending) : Prop := ∃ k b, e = .returned (.tuple #[.int .i64 k, .bool b]) ∧ TypeO o k b
theorem typeO_op (n : Nat) (ks : List Int) : TypeO (opRes (n : Int) ks) (ores n) (opRes (n : Int) ks).isSome := by
  cases h : opRes (n : Int) ks with
  | none => rfl
  | some u =>
    refine ⟨?_, rfl⟩
    match ks with
    | [] => simp [opRes] at h
    | [a] =>
      simp only [opRes] at h
      unfold ores
      split at h
      · injection h; omega
      · split at h
        · injection h; split; omega; split; omega; omega
        · cases h
    | [a, b] =>
      simp only [opRes] at h
      unfold ores
      split at h
      · cases h
      · split at h
        · split at h
          · injection h; split; omega; omega
          · cases h
        · split at h
          · split at h
            · injection h; split; omega; split; omega; omega
            · cases h
          · split at h
            · split at h
              · injection h; split; omega; split; omega; omega
              · cases h
            · split at h
              · split at h
                · injection h; split; omega; split; omega; omega
                · cases h
              · cases h
    | a :: b :: c :: l => simp [opRes] at h
def TypC (f : Nat) (cs : List Co) (t : Sc) : Prop := ∀ (W : World) (A : Option Addr) (c : Nat) (R : Option Addr) (cr : Nat), okT t = true → (∀ i ∈ refs t, i < (cs.length : Int)) → t.f4.length ≤ c → ScRow (· < W.heap.size) W A t.f4 → CoRow (· < W.heap.size) W R cs →
  Calls Tryz.prog f #[scV t A c, .slice R cs.length cr] W fun e W' => TyRes (typ cs t) e ∧ Below W.heap.size W W'
theorem typs_take {cs : List Co} {l : List Sc} : ∀ {ks : List Int}, typs cs l = some ks ↔ l.map (typ cs) = ks.map some := by
  induction l with
  | nil => intro ks; cases ks <;> simp [typs]
  | cons x l ih =>
    intro ks
    simp only [typs, List.map_cons]
    cases ks with
    | nil =>
      cases hu : typ cs x with
      | none => simp
      | some u => cases hv : typs cs l <;> simp
    | cons k ks =>
      simp only [List.map_cons, List.cons.injEq]
      constructor
      · intro h
        cases hu : typ cs x with
        | none => rw [hu] at h; cases h
        | some u =>
          rw [hu] at h
          simp only [Option.bind_some] at h
          cases hv : typs cs l with
          | none => rw [hv] at h; cases h
          | some v =>
            rw [hv] at h; simp at h
            obtain ⟨rfl, rfl⟩ := h
            exact ⟨rfl, ih.1 hv⟩
      · rintro ⟨h1, h2⟩
        rw [h1, ih.2 h2]; rfl
theorem typs_none {cs : List Co} {l : List Sc} {x : Sc} (hx : x ∈ l) (h : typ cs x = none) : typs cs l = none := by
  induction l with
  | nil => cases hx
  | cons y l ih =>
    simp only [typs]
    rcases List.mem_cons.1 hx with rfl | hx
    · rw [h]; rfl
    · rw [ih hx]; cases typ cs y <;> rfl
set_option maxRecDepth 100000 in
set_option maxHeartbeats 4000000 in
theorem typed_c (cs : List Co) (t : Sc) : TypC 49 cs t := by
  refine Sc.ind (P := TypC 49 cs) ?_ t
  intro k0 c0 v0 o0 l ih W A c R cr hok href hc hr hrow
  have hlr := hrow.1
  by_cases h0 : k0 = 0
  · have h0' : (k0 == 0) = true := by simp [h0]
    have H0 : Hid (k0 = 0) := h0
    clear h0
    go_enter Tryz.func49, Tryz.ntmps49
    go_wp2
    go_ret2
    exact ⟨⟨_, _, rfl, by simp [TypeO, typ, H0.out]⟩, ba (Below.refl _ _) _⟩
  · have h0' : (k0 == 0) = false := by simp [h0]
    by_cases h1 : k0 = 1
    · have h1' : (k0 == 1) = true := by simp [h1]
      obtain ⟨n, rfl⟩ : ∃ n : Nat, c0 = n := by
        rw [h1] at hok; unfold okT node at hok; simp at hok; exact ⟨c0.toNat, by omega⟩
      have hn : n < cs.length := by
        have := href n (by simp [refs, h1]); omega
      have hni : (n : Int) < (cs.length : Int) := by omega
      have HN : Hid (k0 ≠ 0 ∧ k0 = 1) := ⟨h0, h1⟩
      clear h0 h1 href
      have hx := List.getElem?_eq_getElem hn
      obtain ⟨b, o, rfl, hbS, e0, e1⟩ := hrow.get hx
      have hbS' : b < W.heap.size := hbS
      have HX : Hid (cs[n]? = some cs[n]) := hx
      clear hx
      generalize cs[n] = x at *
      have hty : typ cs ⟨k0, n, v0, o0, l⟩ = if 0 ≤ x.f1 ∧ x.f1 ≤ 2 then some x.f1 else none := by
        simp only [typ, if_neg HN.out.1, if_pos HN.out.2, Int.toNat_natCast, List.getD_eq_getElem?_getD, HX.out, Option.getD_some]
      have HT : Hid _ := hty
      clear hty
      by_cases g0 : 0 ≤ x.f1
      · by_cases g1 : x.f1 ≤ 2
        · go_enter Tryz.func49, Tryz.ntmps49
          go_wp2
          go_ret2
          exact ⟨⟨_, _, rfl, by rw [HT.out, if_pos ⟨g0, g1⟩]; exact ⟨rfl, rfl⟩⟩, ba (Below.refl _ _) _⟩
        · go_enter Tryz.func49, Tryz.ntmps49
          go_wp2
          go_ret2
          exact ⟨⟨_, _, rfl, by rw [HT.out, if_neg (by omega)]; rfl⟩, ba (Below.refl _ _) _⟩
      · go_enter Tryz.func49, Tryz.ntmps49
        go_wp2
        go_ret2
        exact ⟨⟨_, _, rfl, by rw [HT.out, if_neg (by omega)]; rfl⟩, ba (Below.refl _ _) _⟩
    · have h1' : (k0 == 1) = false := by simp [h1]
      obtain ⟨-, rfl, rfl, ⟨n, rfl, hn, hla⟩, hl2, hl1, hokl⟩ := okT_op hok h0 h1
      have HN : Hid (k0 ≠ 0 ∧ k0 ≠ 1) := ⟨h0, h1⟩
      have HOK : Hid _ := hokl
      have HRF : Hid (∀ x ∈ l, ∀ i ∈ refs x, i < (cs.length : Int)) := fun x hx i hi => href i (by simp only [refs, List.mem_append, mem_refss]; exact .inr ⟨x, hx, hi⟩)
      have IH : Hid _ := ih
      clear h0 h1 hokl hla hok ih href
      go_enter Tryz.func49, Tryz.ntmps49
      go_wp2_with fail
      go_loopg [7, 38] l.length (fun gg s7 s38 wr => ∃ kk : Nat, kk ≤ l.length ∧ l.length - kk ≤ gg ∧ s38 = .int .i64 kk ∧ Hid (Below W.heap.size W wr) ∧
        Hid (wr.heap[W.heap.size]? = some (Obj.cells #[.int .i64 k0, .int .i64 0, .int .i64 vz.f0, .int .i64 vz.f1, .string vz.f2, .int .i64 (n : Int), .slice A l.length c] 26 (0, 0))) ∧
        ∃ ks : List Int, Hid (ks.length = kk) ∧ Hid ((l.take kk).map (typ cs) = ks.map some) ∧ ∃ xs, Hid (wr.ownsRow (W.heap.size + 1) 3 1 s7 kk xs) ∧ Hid (RowL (intR .i64) 1 ks xs))
      case atStart => exact ⟨0, Nat.zero_le _, by omega, rfl, ba (Below.refl _ _) _, alloc_at rfl, [], rfl, rfl, [], World.ownsRow_nil _ _ _ _, rfl⟩
      case round =>
        obtain ⟨kk, hkk, hg, rfl, HB, HK0, ks, HL, HM, xs, HO, HR⟩ := hrel
        have hsz : W.heap.size < wr.heap.size := heap_lt HK0.out
        by_cases hlt : kk < l.length
        · have hx := List.getElem?_eq_getElem hlt
          obtain ⟨b, o, A', c', rfl, hbS, hc', hr', e0, e1, e2, e3, e4, e5, e6⟩ := (hr.below HB.out).get hx
          have hih := IH.out l[kk] (List.getElem_mem _)
          have hok' := HOK.out l[kk] (List.getElem_mem _)
          have href' := HRF.out l[kk] (List.getElem_mem _)
          have HMem : Hid (l[kk] ∈ l) := List.getElem_mem _
          have HX : Hid (l[kk]? = some l[kk]) := hx
          clear hx
          generalize l[kk] = x at *
          have HI : Hid _ := hih
          have HRF' : Hid _ := href'
          clear hih href'
          go_wp2_with fail
          refine (HI.out _ A' c' R cr hok' HRF'.out hc' (hr'.low ((Below.refl _ _).alloc (Nat.le_refl _) _ |>.mono (by omega)) (by simp; omega)) (hrow.low ((HB.out.alloc (by omega) _)) (by simp; omega))).mono ?_
          rintro e w1 ⟨⟨k, b, rfl, hT⟩, hb⟩
          have HT : Hid _ := hT
          clear hT
          have HB1 : Hid (Below wr.heap.size wr w1) := bt (ba (Below.refl _ _) _) hb
          have hsz1 : wr.heap.size < w1.heap.size := by have := hb.size; simp at this; omega
          have HK2 : Hid _ := bk HB1.out HK0.out
          have HO1 : Hid _ := own_below HO.out HB1.out
          clear hb
          cases b with
          | false =>
            have HT1 : Hid (typ cs x = none) := TypeO.no HT.out
            clear HT
            go_wp2_with fail
            go_ret2
            refine ⟨⟨_, _, rfl, ?_⟩, bt HB.out HB1.out⟩
            have h1 := HT1.out
            have h2 : typ cs ⟨k0, 0, vz, n, l⟩ = none := by simp only [typ, if_neg HN.out.1, if_neg HN.out.2, typs_none HMem.out h1]; rfl
            rw [h2]; rfl
          | true =>
            have HT1 : Hid (typ cs x = some k) := TypeO.yes HT.out
            clear HT
            go_wp2_with (at_builtin; go_loud (refine append_int rfl _ _ rfl (W.heap.size + 1) _ _ _ rfl (World.ownsRow.alloc HO1.out _) ⟨w1.heap.size, 0, none⟩ 1 [.int .i64 k] rfl rfl (cells_at (heap_alloc_new _ _)) (by simp [Value.oneCell']) (by omega) (by simp; omega) ?_); intro v' w2 hown' hgrow)
            go_roundg (l.length - (kk + 1))
            case measure => omega
            case rel =>
              have hO2 := World.ownsRow.alloc HO1.out (.cells #[.int .i64 k] 3)
              refine ⟨kk + 1, by omega, by omega, by go_num, own_grown (ba (bt HB.out HB1.out) _) (by simp; omega) hO2 (by omega) hgrow, grown_block hO2 hgrow (alloc_lt HK2.out) (by omega), ks ++ [k], by rw [Hid, List.length_append, HL.out]; rfl, ?_, _, hown', RowL.append (R := intR .i64) (x := k) rfl rfl HR.out⟩
              rw [Hid, kinds_take_sc HX.out, List.map_append, List.map_append, HM.out]
              simp [HT1.out]
        · have : kk = l.length := by omega
          subst this
          have hM : l.map (typ cs) = ks.map some := by have := HM.out; rwa [List.take_length] at this
          have hty : typ cs ⟨k0, 0, vz, n, l⟩ = opRes n ks := by
            simp only [typ, if_neg HN.out.1, if_neg HN.out.2, typs_take.2 hM]; rfl
          have HTY : Hid _ := hty
          obtain ⟨A5, c5, rfl, hc5, hI⟩ := own_row (l := ks) (by rw [HL.out]; exact HO.out) HR.out
          have qc0 := blk_cell HK0.out 0 rfl
          have qc1 := blk_cell HK0.out 1 rfl
          have qc2 := blk_cell HK0.out 2 rfl
          have qc3 := blk_cell HK0.out 3 rfl
          have qc4 := blk_cell HK0.out 4 rfl
          have qc5 := blk_cell HK0.out 5 rfl
          have qc6 := blk_cell HK0.out 6 rfl
          have hacc : Hid (∀ (fv : Value) W, Below wr.heap.size wr W → Calls Tryz.prog 87 #[.agg #[.int .i64 (opnd n), .int .i64 (ar (n : Int)), .int .i64 (ores n), .string (symB n), fv], .slice A5 ks.length c5] W fun e w' => e = .returned (.bool (opRes (n : Int) ks).isSome) ∧ Below W.heap.size W w') := by
            intro fv W hW
            have h := accepts_c (opnd n) (ar (n : Int)) (ores n) (symB n) fv A5 c5 ks W (hI.move (fun _ _ h => h) fun b hb => ⟨by have := hW.size; omega, hW.block b hb.2⟩)
            rwa [accB_op hn] at h
          have h0i : (0 : Int) ≤ (n : Int) := by omega
          have h1i : (n : Int) < 14 := by omega
          clear HO HR hlt hg hI hM hty
          have hne1 : ¬ wr.heap.size = W.heap.size := by omega
          have hne2 : ¬ W.heap.size = wr.heap.size := by omega
          go_wp2_with fail
          go_region_held3 (fun w' => w'.cell? ⟨W.heap.size, 5, none⟩ = some (.int .i64 (n : Int))) (go_keep) (first | (go_at_call 86; refine (operators_c _).mono ?_; rintro e w1 ⟨g, rfl, hg1, hg2, hO, hb⟩; obtain ⟨v, hv, p0, p1, p2, p3, p4⟩ := hO n hn; obtain ⟨fg, lb, rfl, ent, hfn⟩ := hv.fn; have HF : Hid _ := hfn; have HB1 : Hid _ := hb; have hsz2 : W.heap.size < w1.heap.size := (by have h := hb.size; simp [World.drew_heap] at h; omega); have t5 := blk_cell (bk hb (n := W.heap.size) (by first | exact HK0.out | exact alloc_lt HK0.out)) 5 rfl; (try (have hz := bk hb (n := wr.heap.size) (alloc_at (by simp [World.drew_heap])); obtain ⟨z0, z1, z2, z3, z4, y0, y1, y2, y3, y4⟩ := cells5 hz; have HZ : Hid _ := hz; clear hz)); clear hfn hv hO hb))
          all_goals (try rw [set5 HZ.out])
          all_goals first
            | (have HB8b : Hid _ := setRow_heap _ _ _ #[.int .i64 (opnd n), .int .i64 (ar (n : Int)), .int .i64 (ores n), .string (symB n), .func (.func fg) #[] lb] _ _ HZ.out
               have HB8 : Hid (Below wr.heap.size wr (w1.setRow wr.heap.size #[.int .i64 (opnd n), .int .i64 (ar (n : Int)), .int .i64 (ores n), .string (symB n), .func (.func fg) #[] lb])) := bsr (bt (ba (bd (Below.refl _ _)) _) HB1.out) (Nat.le_refl _) _
               obtain ⟨d0, d1, d2, d3, d4, -⟩ := cells5 HB8b.out
               clear z0 z1 z2 z3 z4 y0 y1 y2 y3 y4 p0 p1 p2 p3 p4
               have h8 : wr.heap.size < (w1.setRow wr.heap.size #[.int .i64 (opnd n), .int .i64 (ar (n : Int)), .int .i64 (ores n), .string (symB n), .func (.func fg) #[] lb]).heap.size := heap_lt HB8b.out
               generalize w1.setRow wr.heap.size #[.int .i64 (opnd n), .int .i64 (ar (n : Int)), .int .i64 (ores n), .string (symB n), .func (.func fg) #[] lb] = W8 at *
               have H8 : Hid (W8.heap[wr.heap.size]? = _) := HB8b
               clear HB8b
               generalize wr.heap.size = n8 at d0 d1 d2 d3 d4 H8 h8 ⊢)
            | (have HB8b : Hid _ := alloc_at (W := w1) (o := Obj.cells #[.int .i64 (opnd n), .int .i64 (ar (n : Int)), .int .i64 (ores n), .string (symB n), .func (.func fg) #[] lb] 92) rfl
               have HB8 : Hid (Below wr.heap.size wr (w1.alloc (Obj.cells #[.int .i64 (opnd n), .int .i64 (ar (n : Int)), .int .i64 (ores n), .string (symB n), .func (.func fg) #[] lb] 92))) := ba (bt (bd (Below.refl _ _)) HB1.out) _
               obtain ⟨d0, d1, d2, d3, d4, -⟩ := cells5 HB8b.out
               clear p0 p1 p2 p3 p4
               have h8 : w1.heap.size < (w1.alloc (Obj.cells #[.int .i64 (opnd n), .int .i64 (ar (n : Int)), .int .i64 (ores n), .string (symB n), .func (.func fg) #[] lb] 92)).heap.size := heap_lt HB8b.out
               generalize w1.alloc (Obj.cells #[.int .i64 (opnd n), .int .i64 (ar (n : Int)), .int .i64 (ores n), .string (symB n), .func (.func fg) #[] lb] 92) = W8 at *
               have H8 : Hid (W8.heap[w1.heap.size]? = _) := HB8b
               clear HB8b
               generalize w1.heap.size = n8 at d0 d1 d2 d3 d4 H8 h8 ⊢)
          all_goals go_wp2_with fail
          all_goals (clear t5 hne1 hne2; have hs8 := HB8.out.size)
          all_goals (go_region_held3 (fun w' => w'.cell? ⟨n8, 0, none⟩ = some (.int .i64 (opnd n)) ∧ w'.cell? ⟨n8, 1, none⟩ = some (.int .i64 (ar (n : Int))) ∧ w'.cell? ⟨n8, 2, none⟩ = some (.int .i64 (ores n)) ∧ w'.cell? ⟨n8, 3, none⟩ = some (.string (symB n)) ∧ w'.cell? ⟨n8, 4, none⟩ = some (.func (.func fg) #[] lb)) (go_keep) (first | (go_at_call 87; refine (hacc.out _ _ (bd HB8.out)).mono ?_; rintro e w2 ⟨rfl, hb2⟩; obtain ⟨s0, s1, s2, s3, s4, -⟩ := cells5 (bk hb2 (n := n8) H8.out); have HB9 : Hid _ := hb2; clear hb2)))
          all_goals go_wp2_with fail
          all_goals go_ret2
          all_goals refine ⟨⟨_, _, rfl, ?_⟩, bt HB.out (bt (bd HB8.out) HB9.out)⟩
          all_goals (rw [HTY.out]; exact typeO_op n ks)
end Go.Proofs.YtemedepjmnncbaaGreatDoor
