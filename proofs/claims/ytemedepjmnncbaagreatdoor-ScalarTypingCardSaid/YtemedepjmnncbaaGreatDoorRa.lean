import Derived.Test.YtemedepjmnncbaaGreatDoorB8
import Derived.Test.YtemedepjmnncbaaGreatDoorBr
import Derived.Test.YtemedepjmnncbaaGreatDoorShelf
import Derived.Test.YtemedepjmnncbaaGreatDoorRows
import Derived.ProofKit
import Derived.LaidMore
import Derived.OpenShut
import Derived.Stop.Joined
import Derived.HandedShaped
import Derived.Lay
namespace Go.Proofs.YtemedepjmnncbaaGreatDoor
set_option linter.unusedVariables false
set_option linter.unusedSimpArgs false
open Go.ChangeShapes Go.WideShapes Go.ChangeAt Go.WideMaps Go.WideElems Go.RowKit Go.Shelf Pu
/-- What is laid and the world's shape, both handed on. -/
theorem change_and_shaped {H : Type} {enc : TypeId × Value → H} {a : Assume} {C : Checked} {os : Os} {f : FuncId} {fn : Func} {s : ChangeSpec} {conds : List PathCond} {apart fresh handsOn again : Bool} {X : World → Array Value → Prop}
    (hX : ∀ (w w' : World) (args : Array Value), w.heap = w'.heap → X w args → X w' args)
    (own : ownKnob C.prog.godebug = none) (started : os.Started) (noInit : C.prog.inits.idxOf? f = none) (hfn : C.prog.funcs[f]? = some fn)
    (witness : ∃ (w : World) (tape : Tape) (i : Input), w.os = os ∧ (w.forCall tape i).Shaped C.prog ∧ i.vars = [] ∧ Input.okWide C.prog (w.forCall tape i) .any w.heap.size f i ∧
      ((s.pre enc C.prog fn conds apart (w.forCall tape i).memory i.args ∧ X (w.forCall tape i).memory i.args) ∧ sizedMet enc C.prog fn (OpenSpec.ofChange s) apart (w.forCall tape i).memory i.args) ∧ a.holds C.prog (lone (Frame.enter C.prog f i.args .normal) [] (w.forCall tape i)))
    (contract : ∀ (W : World) (base : Nat) (args : Array Value) (ds gs : List (DataW H)) (before : List MemPlace),
      (∀ (j : Nat) t v, fn.params[j]? = some t → args[j]? = some v → Value.okWide C.prog W .any base t v) →
      DataW.Whole enc C.prog fn.params.toList s.vars apart W args.toList ds gs before → X W args → W.ShapedOpen C.prog →
      Calls C.prog f args W fun e W' => ∃ v, e = .returned v ∧ s.post enc C.prog fn apart fresh handsOn again W args v W') :
    ReturnsInHanded a C os f .any (fun w args => (s.pre enc C.prog fn conds apart w args ∧ X w args) ∧ sizedMet enc C.prog fn (OpenSpec.ofChange s) apart w args) (s.post enc C.prog fn apart fresh handsOn again) := by
  refine returnsInHanded_of_calls own started noInit witness ?_
  intro w tape i _ hsh _ hok hpre hholds
  obtain ⟨_, _, _, fn', hfn', _, _, _, _, hval⟩ := hok
  have e : fn' = fn := Option.some.inj (hfn'.symm.trans hfn)
  subst e
  obtain ⟨⟨⟨ds, gs, before, hw, hc⟩, hx⟩, hz⟩ := hpre
  have hw' := DataW.Whole.of_heap (w' := w.forCall tape i) (by rfl) hw
  refine (contract (w.forCall tape i) w.heap.size i.args ds gs before hval hw' (hX _ _ _ (by rfl) hx) hsh).mono fun e W' ⟨v, he, hp⟩ => ?_
  subst he
  exact ChangeSpec.post_blind hp
theorem own : ownKnob Tryz.prog.godebug = none := by kernel_rfl
abbrev laid5 : List (String × DataW Unit) := Rows.scalarTypingRow.laid
theorem env_of {W : World} (h : laidMetH Tryz.prog laid5 W) (hsh : W.ShapedOpen Tryz.prog) : Env W := by
  refine ⟨Tryz.laysM155.s1_3 W hsh, ?_⟩
  rw [MakeChecks.laidMetH_plain _ _ _ (by kernel_rfl)] at h
  obtain ⟨ps, ⟨g0, t0, cs0, f0, p0, q0, hg0, ht0, hv0, hd0, ⟨g1, t1, cs1, f1, p1, q1, hg1, ht1, hv1, hd1, ⟨g2, t2, cs2, f2, p2, q2, hg2, ht2, hv2, hd2, _, _⟩, _⟩, _⟩, _⟩ := h
  have h160 : Tryz.prog.globalNamed "internal/strconv.uint64pow10" = some 0 := by kernel_rfl
  have hty : (Tryz.prog.globals[0]?).map (·.type) = some 160 := by kernel_rfl
  obtain rfl := Option.some.inj (h160.symm.trans hg2)
  obtain rfl := Option.some.inj (hty.symm.trans ht2)
  unfold Lib.TabIs
  rw [hv2, ← Lib.cells_of_tab (zs := Lib.pow10Tab) (k := .u64) Tryz.underlying160 Tryz.underlying110 (by kernel_rfl) (by kernel_rfl) (show DataW.trod _ _ _ _ _ _ _ _ _ = some (Lib.tabData .u64 Lib.pow10Tab, p2) from hd2)]
section
variable {H : Type} {enc : TypeId × Value → H}
theorem lt_of_whole {ts : List TypeId} {vs : List String} {ap : Bool} {W : World} {args : List Value} {ds gs : List (DataW H)} {before : List MemPlace} (h : DataW.Whole enc Tryz.prog ts vs ap W args ds gs before) : ∀ p ∈ before, p.block < W.heap.size := fun p hp => h.lt p hp
set_option maxRecDepth 100000 in
/-- An argument that is an expression. -/
theorem open_sc {W : World} {b0 : Nat} {v : Value} {d : DataW H} {ps : List MemPlace} (hv : Value.okWide Tryz.prog W .any b0 26 v) (h : DataW.Trod enc Tryz.prog W 0 (fun _ => true) true 26 v d ps) :
    ∃ (x : Sc) (A : Option Addr) (c : Nat), v = scV x A c ∧ x.f4.length ≤ c ∧ scW x ∧ ScRow (· < W.heap.size) W A x.f4 := by
  obtain ⟨cs, rfl, hcs⟩ := okWide_struct Tryz.underlying26 hv
  obtain ⟨fuel, hf⟩ := h
  obtain ⟨x, A, c, e, h1, h2, h3⟩ := sc_of_trod fuel _ _ hf
  refine ⟨x, A, c, ?_, h1, h2, h3⟩
  have e' : cs.toList = _ := e
  show Value.agg cs = _
  rw [Array.ext' (xs := cs) (ys := #[.int .i64 x.f0, .int .i64 x.f1, .int .i64 x.f2.f0, .int .i64 x.f2.f1, .string x.f2.f2, .int .i64 x.f3, .slice A x.f4.length c]) e']
set_option maxRecDepth 100000 in
theorem open_cols {W : World} {b0 : Nat} {v : Value} {d : DataW H} {ps : List MemPlace} (hv : Value.okWide Tryz.prog W .any b0 27 v) (h : DataW.Trod enc Tryz.prog W 0 (fun _ => true) true 27 v d ps) :
    ∃ (l : List Co) (A : Option Addr) (c : Nat), v = .slice A l.length c ∧ CoRow (· < W.heap.size) W A l := by
  obtain ⟨a, len, cap, rfl⟩ := okWide_slice Tryz.underlying27 hv
  obtain ⟨fuel, hf⟩ := h
  obtain ⟨A, l, c, e, h1, h2⟩ := row_of_trod (R := coR) (sz := 2) Tryz.underlying27 (by kernel_rfl) (by decide) (fun n cs y hy _ => co_of_trod hy) hf
  have e' : [Value.slice a len cap] = [.slice A l.length c] := e
  injection e' with e'
  exact ⟨l, A, c, e', h2⟩
end
set_option maxRecDepth 100000 in
theorem typing_lifted (os : Os) (started : os.Started) (H : Type) (enc : TypeId × Value → H) :
    ReturnsInHanded {} Tryz.checked os 3 .any (fun w args => (Rows.scalarTypingSpec.pre enc Tryz.prog Tryz.f3 [] false w args ∧ laidMetH Tryz.prog laid5 w) ∧ sizedMet enc Tryz.prog Tryz.f3 (OpenSpec.ofChange Rows.scalarTypingSpec) false w args)
      (Rows.scalarTypingSpec.post enc Tryz.prog Tryz.f3 false true false false) := by
  refine change_and_shaped (C := Tryz.checked) (X := fun w _ => laidMetH Tryz.prog laid5 w) (fun _ _ _ hh h => h.of_heap hh) own started (by kernel_rfl) Tryz.func3
    (ChangeSpec.witness_shaped (enc := enc) (C := Tryz.checked) (os := os) (X := fun w _ => laidMetH Tryz.prog laid5 w) false (World.laidAll Tryz.prog os laid5) #[.agg #[.int .i64 0, .int .i64 0, .int .i64 0, .int .i64 0, .string ⟨#[]⟩, .int .i64 0, .slice none 0 0], .agg #[.int .i64 0, .int .i64 0, .int .i64 0, .int .i64 0, .string ⟨#[]⟩, .int .i64 0, .slice none 0 0], .slice none 0 0] 8 (World.laidAll_os _ _ _)
      (World.shaped_of_ZipB (by kernel_rfl) (by kernel_rfl)) (by kernel_rfl) (by kernel_rfl) (by kernel_rfl)
      (by rw [MakeChecks.laidMetH_plain _ _ _ (by kernel_rfl)]; exact laidMet_laidAll _ (by kernel_rfl) (by kernel_rfl))) ?_
  intro W base args ds gs before hval0 hW hL hsh
  have hval : ∀ (j : Nat) t v, Tryz.f3.params[j]? = some t → args[j]? = some v → Value.okWide Tryz.prog W .any base t v := hval0
  have hW' := hW
  have hlt := lt_of_whole hW
  obtain ⟨p, q, hA0, hV, rfl, hfz, hnd⟩ := hW
  have hA : DataW.TrodAll enc Tryz.prog W 0 (fun _ => true) true Tryz.f3.params.toList args.toList ds p := hA0
  rw [Tryz.params3] at hA hval
  obtain ⟨v0, v1, v2, d0, d1, d2, p0, p1, p2, rfl, rfl, rfl, h0, h1, h2⟩ := trodAll_three hA
  obtain ⟨rfl, rfl⟩ := trodVars_none hV
  obtain ⟨a, A, ca, rfl, hca, hWa, hra⟩ := open_sc (hval 0 _ v0 rfl rfl) h0
  obtain ⟨b, B, cb, rfl, hcb, hWb, hrb⟩ := open_sc (hval 1 _ v1 rfl rfl) h1
  obtain ⟨cs, R, cr, rfl, hrow⟩ := open_cols (hval 2 _ v2 rfl rfl) h2
  clear hA0 hval0
  refine (typing_c a b cs A B R ca cb cr W (env_of hL hsh) hWa hWb hca hcb hra hrb hrow).mono fun e W' ⟨he, hb⟩ => ?_
  subst he
  have lo : laidOutB Tryz.prog = true := by kernel_rfl
  have r26 : Tryz.prog.readableRec 26 = true := by kernel_rfl
  have r27 : Tryz.prog.readableRec 27 = true := by kernel_rfl
  have s26 : 26 < Tryz.prog.types.size := of_decide_eq_true (by kernel_rfl)
  have s27 : 27 < Tryz.prog.types.size := of_decide_eq_true (by kernel_rfl)
  refine ⟨_, rfl, _, _, _, [], p0 ++ (p1 ++ p2), [], hW', ?_, ?_, ?_, hb.frame _, fun h => by cases h⟩
  · exact trodAll_mk1 (shut_bool Tryz.underlying4 true)
  · exact trodAll_mk3 (Below.trod lo r26 s26 h0 hb (fun x hx => hlt x (by simp [hx]))) (Below.trod lo r26 s26 h1 hb (fun x hx => hlt x (by simp [hx]))) (Below.trod lo r27 s27 h2 hb (fun x hx => hlt x (by simp [hx])))
  · exact (rfl : ([] : List MemPlace) = [])
theorem typing_row : Rows.ScalarTypingSaid :=
  OpenClaim.holds_of_wide 3 Tryz.f3 rfl rfl rfl rfl rfl rfl rfl ⟨rfl, rfl, rfl, rfl, rfl⟩ rfl rfl rfl rfl rfl (by kernel_rfl) Tryz.func3 (by kernel_rfl)
    (of_decide_eq_true (by kernel_rfl)) (by unfold Func.isWrapper; first | (rw [if_pos (by decide +kernel)]; kernel_rfl) | (rw [if_neg (by decide +kernel)]; exact ⟨rfl, rfl⟩))
    (fun os started H enc _ => typing_lifted os started H enc)
end Go.Proofs.YtemedepjmnncbaaGreatDoor
