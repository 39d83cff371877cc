import Derived.Test.YtemedepjmnncbaaGreatDoorB1
import Derived.Test.YtemedepjmnncbaaGreatDoorA12
import Derived.ProofKit
namespace Go.Proofs.YtemedepjmnncbaaGreatDoor
set_option linter.unusedVariables false
set_option linter.unusedSimpArgs false
open Go.RowKit Go.Shelf Pu
/-! From the data of the arguments to the trees of the proof. -/
section
variable {H : Type} {enc : TypeId × Value → H} {W : World} {spare : Nat → Bool} {held : Bool}
theorem list_of_all {α : Type} {P : Nat → α → Prop} : ∀ (n : Nat), (∀ i, i < n → ∃ x, P i x) → ∃ l : List α, l.length = n ∧ ∀ i x, l[i]? = some x → P i x
  | 0, _ => ⟨[], rfl, fun i x h => by simp at h⟩
  | n + 1, h => by
    obtain ⟨l, hl, hp⟩ := list_of_all n fun i hi => h i (by omega)
    obtain ⟨y, hy⟩ := h n (by omega)
    refine ⟨l ++ [y], by simp [hl], fun i x hx => ?_⟩
    by_cases hi : i < l.length
    · rw [List.getElem?_append_left hi] at hx; exact hp i x hx
    · rw [List.getElem?_append_right (by omega)] at hx
      have h0 : i - l.length = 0 := by
        have := (List.getElem?_eq_some_iff.1 hx).1
        simp at this; omega
      rw [h0] at hx
      simp at hx
      subst hx
      rw [show i = n by omega]; exact hy
theorem rowR_of {α : Type} {R : α → List Value → Prop} {sz b : Nat} : ∀ {l : List α} {o : Nat}, (∀ i x, l[i]? = some x → ∃ cs, R x cs ∧ ∀ j u, cs[j]? = some u → W.cell? ⟨b, o + i * sz + j, none⟩ = some u) → rowR R sz W b o l
  | [], _, _ => trivial
  | x :: l, o, h => by
    refine ⟨?_, rowR_of fun i y hy => ?_⟩
    · obtain ⟨cs, h1, h2⟩ := h 0 x rfl
      exact ⟨cs, h1, fun j u hj => by have := h2 j u hj; rwa [Nat.zero_mul, Nat.add_zero] at this⟩
    · obtain ⟨cs, h1, h2⟩ := h (i + 1) y (by simpa using hy)
      exact ⟨cs, h1, fun j u hj => by have := h2 j u hj; rwa [show o + (i + 1) * sz + j = o + sz + i * sz + j by rw [Nat.add_mul]; omega] at this⟩
theorem cells_of {a : Addr} {n : Nat} {cs : List Value} (h : W.cells? 0 a n = some cs) : cs.length = n ∧ ∀ j u, cs[j]? = some u → W.cell? (a.add j) = some u := by
  obtain ⟨-, hl, hc⟩ := World.cells?_some h
  refine ⟨hl, fun j u hj => ?_⟩
  have hlt := (List.getElem?_eq_some_iff.1 hj).1
  rw [hc j (by omega)]; exact hj
theorem wf_inR {n : Int} (h : (Lit.int .i64 n).wf = true) : inR n := by
  simp [Lit.wf, IntKind.min, IntKind.max, IntKind.signed, IntKind.bits] at h
  unfold inR
  omega
set_option maxRecDepth 100000 in
theorem va_of_trod {fuel : Nat} {cs : List Value} {x : DataW H × List MemPlace} (h : DataW.trod enc Tryz.prog W 0 spare held fuel 23 cs = some x) : ∃ v : Va, cs = [.int .i64 v.f0, .int .i64 v.f1, .string v.f2] ∧ inR v.f0 ∧ inR v.f1 := by
  obtain ⟨xs, n, rfl, -, hl, hx, hf⟩ := DataW.trod_struct Tryz.underlying23 h
  have hl3 : cs.length = 3 := hl.trans (by kernel_rfl)
  have hx3 : xs.length = 3 := hx
  have c3 : Tryz.prog.cellsOf 3 = 1 := by kernel_rfl
  have c2 : Tryz.prog.cellsOf 2 = 1 := by kernel_rfl
  have c9 : Tryz.prog.cellsOf 9 = 1 := by kernel_rfl
  match cs, hl3, xs, hx3 with
  | [d0, d1, d2], _, [x0, x1, x2], _ =>
    have h0 := hf 0 _ rfl
    have h1 := hf 1 _ rfl
    have h2 := hf 2 _ rfl
    simp only [List.getElem_toArray, List.getElem_cons_zero, List.getElem_cons_succ, c3, c2, c9] at h0 h1 h2
    obtain ⟨k0, e0, -, w0⟩ := DataW.trod_int Tryz.underlying3 (show DataW.trod enc _ W 0 spare held n 3 [d0] = some x0 from h0)
    obtain ⟨k1, e1, -, w1⟩ := DataW.trod_int Tryz.underlying2 (show DataW.trod enc _ W 0 spare held n 2 [d1] = some x1 from h1)
    obtain ⟨k2, e2, -, w2⟩ := DataW.trod_string Tryz.underlying9 (show DataW.trod enc _ W 0 spare held n 9 [d2] = some x2 from h2)
    injection e0 with e0; injection e1 with e1; injection e2 with e2
    subst e0 e1 e2
    exact ⟨⟨k0, k1, k2⟩, rfl, wf_inR w0, wf_inR w1⟩
set_option maxRecDepth 100000 in
theorem sc_of_trod : ∀ (fuel : Nat) (cs : List Value) (x : DataW H × List MemPlace), DataW.trod enc Tryz.prog W 0 (fun _ => true) held fuel 26 cs = some x →
    ∃ (s : Sc) (A : Option Addr) (c : Nat), cs = [.int .i64 s.f0, .int .i64 s.f1, .int .i64 s.f2.f0, .int .i64 s.f2.f1, .string s.f2.f2, .int .i64 s.f3, .slice A s.f4.length c] ∧ s.f4.length ≤ c ∧ scW s ∧ ScRow (· < W.heap.size) W A s.f4 := by
  intro fuel
  induction fuel using Nat.strongRecOn with
  | _ fuel ih =>
    intro cs x h
    obtain ⟨xs, n, rfl, -, hl, hx, hf⟩ := DataW.trod_struct Tryz.underlying26 h
    have hl7 : cs.length = 7 := hl.trans (by kernel_rfl)
    have hx5 : xs.length = 5 := hx
    have c3 : Tryz.prog.cellsOf 3 = 1 := by kernel_rfl
    have cv : Tryz.prog.cellsOf 23 = 3 := by kernel_rfl
    have c24 : Tryz.prog.cellsOf 24 = 1 := by kernel_rfl
    have c26 : Tryz.prog.cellsOf 26 = 7 := by kernel_rfl
    match cs, hl7, xs, hx5 with
    | [d0, d1, d2, d3, d4, d5, d6], _, [x0, x1, x2, x3, x4], _ =>
      have h0 := hf 0 _ rfl
      have h1 := hf 1 _ rfl
      have h2 := hf 2 _ rfl
      have h3 := hf 3 _ rfl
      have h4 := hf 4 _ rfl
      simp only [List.getElem_toArray, List.getElem_cons_zero, List.getElem_cons_succ, c3, cv, c24] at h0 h1 h2 h3 h4
      obtain ⟨k0, e0, -, w0⟩ := DataW.trod_int Tryz.underlying3 (show DataW.trod enc _ W 0 (fun _ => true) held n 3 [d0] = some x0 from h0)
      obtain ⟨k1, e1, -, w1⟩ := DataW.trod_int Tryz.underlying3 (show DataW.trod enc _ W 0 (fun _ => true) held n 3 [d1] = some x1 from h1)
      obtain ⟨v, e2, wv0, wv1⟩ := va_of_trod (show DataW.trod enc _ W 0 (fun _ => true) held n 23 [d2, d3, d4] = some x2 from h2)
      obtain ⟨k3, e3, -, w3⟩ := DataW.trod_int Tryz.underlying3 (show DataW.trod enc _ W 0 (fun _ => true) held n 3 [d5] = some x3 from h3)
      injection e0 with e0; injection e1 with e1; injection e3 with e3
      injection e2 with e2 e2'; injection e2' with e4 e4'; injection e4' with e5
      subst e0 e1 e2 e3 e4 e5
      rcases DataW.trod_slice Tryz.underlying24 (show DataW.trod enc _ W 0 (fun _ => true) held n 24 [d6] = some x4 from h4) with ⟨e6, -⟩ | ⟨a, len, cap, elems, rest, m, rfl, e6, -, -, hlc, hcm, hel, hget, -, -⟩
      · injection e6 with e6
        subst e6
        exact ⟨⟨k0, k1, v, k3, []⟩, none, 0, rfl, Nat.le_refl _, ⟨⟨wf_inR w0, wf_inR w1, wv0, wv1, wf_inR w3⟩, trivial⟩, Row.nil _⟩
      · injection e6 with e6
        subst e6
        simp only [c26] at hget
        have hall : ∀ i, i < len → ∃ y : Sc, (∃ ys, scR (· < W.heap.size) W y ys ∧ (∀ j u, ys[j]? = some u → W.cell? ((a.add (i * 7)).add j) = some u) ∧ ys.length = 7) ∧ scW y := by
          intro i hi
          have hg := hget i hi
          have : elems[i]? = some elems[i] := List.getElem?_eq_getElem (by omega)
          rw [this] at hg
          cases hc : W.cells? 0 (a.add (i * 7)) 7 with
          | none => rw [hc] at hg; cases hg
          | some ys =>
            rw [hc] at hg
            obtain ⟨s, A, c, e, hlen, hw, hr⟩ := ih m (by omega) ys _ hg
            obtain ⟨hy, hcell⟩ := cells_of hc
            exact ⟨s, ⟨ys, scR_iff.2 ⟨A, c, e, hlen, hr⟩, hcell, hy⟩, hw⟩
        obtain ⟨l, hll, hlp⟩ := list_of_all len hall
        have hlen : len ≤ 9223372036854775807 := by unfold maxLen at hcm; omega
        refine ⟨⟨k0, k1, v, k3, l⟩, some a, cap, by rw [← hll], by show l.length ≤ cap; omega, ⟨⟨wf_inR w0, wf_inR w1, wv0, wv1, wf_inR w3⟩, scWs_of fun y hy => ?_⟩, ?_⟩
        · obtain ⟨i, hi, rfl⟩ := List.mem_iff_getElem.1 hy
          exact (hlp i _ (List.getElem?_eq_getElem hi)).2
        · refine ⟨by rw [hll]; exact hlen, ?_⟩
          by_cases hl0 : l = []
          · exact .inl hl0
          · have hpos : 0 < l.length := List.length_pos_iff.2 hl0
            obtain ⟨⟨ys, -, hy, hy7⟩, -⟩ := hlp 0 _ (List.getElem?_eq_getElem hpos)
            have hc0 := hy 0 ys[0] (List.getElem?_eq_getElem (by omega))
            have ha0 : (a.add (0 * 7)).add 0 = a := rfl
            rw [ha0] at hc0
            have hsp : a.spot = none := by
              unfold World.cell? at hc0
              split at hc0
              · split at hc0
                · cases hc0
                · rename_i hs; cases hq : a.spot with
                  | none => rfl
                  | some q => rw [hq] at hs; simp at hs
              · cases hc0
            obtain ⟨b, o, sp⟩ := a
            simp only at hsp
            subst hsp
            refine .inr ⟨b, o, rfl, World.block_lt_of_cell? W _ hc0, rowR_of fun i y hi => ?_⟩
            obtain ⟨⟨zs, h1, h2, -⟩, -⟩ := hlp i y hi
            refine ⟨zs, h1, fun j u hj => ?_⟩
            have := h2 j u hj
            have e : ((⟨b, o, none⟩ : Addr).add (i * 7)).add j = ⟨b, o + i * 7 + j, none⟩ := by unfold Addr.add; split <;> split <;> simp_all
            rwa [e] at this
set_option maxRecDepth 100000 in
theorem co_of_trod {fuel : Nat} {cs : List Value} {x : DataW H × List MemPlace} (h : DataW.trod enc Tryz.prog W 0 spare held fuel 66 cs = some x) : ∃ v : Co, coR v cs := by
  obtain ⟨xs, n, rfl, -, hl, hx, hf⟩ := DataW.trod_struct Tryz.underlying66 h
  have hl2 : cs.length = 2 := hl.trans (by kernel_rfl)
  have hx2 : xs.length = 2 := hx
  have c3 : Tryz.prog.cellsOf 3 = 1 := by kernel_rfl
  have c9 : Tryz.prog.cellsOf 9 = 1 := by kernel_rfl
  match cs, hl2, xs, hx2 with
  | [d0, d1], _, [x0, x1], _ =>
    have h0 := hf 0 _ rfl
    have h1 := hf 1 _ rfl
    simp only [List.getElem_toArray, List.getElem_cons_zero, List.getElem_cons_succ, c3, c9] at h0 h1
    obtain ⟨k0, e0, -, w0⟩ := DataW.trod_string Tryz.underlying9 (show DataW.trod enc _ W 0 spare held n 9 [d0] = some x0 from h0)
    obtain ⟨k1, e1, -, w1⟩ := DataW.trod_int Tryz.underlying3 (show DataW.trod enc _ W 0 spare held n 3 [d1] = some x1 from h1)
    injection e0 with e0; injection e1 with e1
    subst e0 e1
    exact ⟨⟨k0, k1⟩, rfl⟩
/-- A slice as a row. -/
theorem row_of_trod {α : Type} {R : α → List Value → Prop} {sz t e fuel : Nat} {cs : List Value} {x : DataW H × List MemPlace} (hu : Tryz.prog.underlying t = some (.slice e)) (hsz : Tryz.prog.cellsOf e = sz) (hpos : 0 < sz)
    (hel : ∀ (n : Nat) (cs : List Value) (y : DataW H × List MemPlace), DataW.trod enc Tryz.prog W 0 (fun _ => true) held n e cs = some y → cs.length = sz → ∃ y : α, R y cs)
    (h : DataW.trod enc Tryz.prog W 0 (fun _ => true) held fuel t cs = some x) : ∃ (A : Option Addr) (l : List α) (c : Nat), cs = [.slice A l.length c] ∧ l.length ≤ c ∧ Row R sz (· < W.heap.size) W A l := by
  rcases DataW.trod_slice hu h with ⟨rfl, -⟩ | ⟨a, len, cap, elems, rest, m, rfl, rfl, -, -, hlc, hcm, hel2, hget, -, -⟩
  · exact ⟨none, [], 0, rfl, Nat.le_refl _, Row.nil _⟩
  · rw [hsz] at hget
    have hall : ∀ i, i < len → ∃ y : α, ∃ ys, R y ys ∧ (∀ j u, ys[j]? = some u → W.cell? ((a.add (i * sz)).add j) = some u) ∧ ys.length = sz := by
      intro i hi
      have hg := hget i hi
      have : elems[i]? = some elems[i] := List.getElem?_eq_getElem (by omega)
      rw [this] at hg
      cases hc : W.cells? 0 (a.add (i * sz)) sz with
      | none => rw [hc] at hg; cases hg
      | some ys =>
        rw [hc] at hg
        obtain ⟨hy, hcell⟩ := cells_of hc
        obtain ⟨y, hR⟩ := hel m ys _ hg hy
        exact ⟨y, ys, hR, hcell, hy⟩
    obtain ⟨l, hll, hlp⟩ := list_of_all len hall
    have hlen : len ≤ 9223372036854775807 := by unfold maxLen at hcm; omega
    refine ⟨some a, l, cap, by rw [hll], by omega, by rw [hll]; exact hlen, ?_⟩
    by_cases hl0 : l = []
    · exact .inl hl0
    · have hpos2 : 0 < l.length := List.length_pos_iff.2 hl0
      obtain ⟨ys, -, hy, hy7⟩ := hlp 0 _ (List.getElem?_eq_getElem hpos2)
      have hc0 := hy 0 ys[0] (List.getElem?_eq_getElem (by omega))
      have ha0 : (a.add (0 * sz)).add 0 = a := by rw [Nat.zero_mul]; rfl
      rw [ha0] at hc0
      have hsp : a.spot = none := by
        unfold World.cell? at hc0
        split at hc0
        · split at hc0
          · cases hc0
          · rename_i hs; cases hq : a.spot with
            | none => rfl
            | some q => rw [hq] at hs; simp at hs
        · cases hc0
      obtain ⟨b, o, sp⟩ := a
      simp only at hsp
      subst hsp
      refine .inr ⟨b, o, rfl, World.block_lt_of_cell? W _ hc0, rowR_of fun i y hi => ?_⟩
      obtain ⟨zs, h1, h2, -⟩ := hlp i y hi
      refine ⟨zs, h1, fun j u hj => ?_⟩
      have := h2 j u hj
      have e : ((⟨b, o, none⟩ : Addr).add (i * sz)).add j = ⟨b, o + i * sz + j, none⟩ := by unfold Addr.add; split <;> split <;> simp_all
      rwa [e] at this
end
end Go.Proofs.YtemedepjmnncbaaGreatDoor
