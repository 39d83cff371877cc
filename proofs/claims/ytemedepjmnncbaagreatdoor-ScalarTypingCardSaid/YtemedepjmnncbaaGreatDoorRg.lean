import Derived.Test.YtemedepjmnncbaaGreatDoorAp
import Derived.StillTail
namespace Go.Proofs.YtemedepjmnncbaaGreatDoor
set_option linter.unusedVariables false
set_option linter.unusedSimpArgs false
open Go

/-! A region whose operations come in whatever order: an invariant of what has come. -/
section
variable {P : Program} {ops : Array Oper} {Q : Exit → Act → World → Prop}
def backB (ops : Array Oper) : Bool := (List.range ops.size).all fun j => match ops[j]? with | some o => o.after.all (fun e => decide (e.on < j)) | none => true
theorem backB_spec (h : backB ops = true) (j : Nat) (oj : Oper) (hj : ops[j]? = some oj) : ∀ e ∈ oj.after, e.on < j := by
  intro e he
  have h1 := List.all_eq_true.1 h j (List.mem_range.2 (Array.getElem?_eq_some_iff.1 hj).1)
  simp only [hj] at h1
  have := Array.all_eq_true'.1 h1 e he
  simpa using this
theorem ready_nil_full {md : Region.Mode} {listed : Array Bool} (hsz : listed.size = ops.size) (hb : backB ops = true) (hr : Region.ready md ops listed = []) :
    listed = Array.replicate ops.size true := by
  have key : ∀ j, j < ops.size → listed.getD j false = true := by
    intro j
    induction j using Nat.strongRecOn with
    | _ j ih =>
      intro hj
      cases h : listed.getD j false with
      | true => rfl
      | false =>
        exfalso
        have hm : j ∈ Region.ready md ops listed := mem_ready.2 ⟨getD_in (by omega) h, ops[j], by simp [hj], fun e he _ => ih e.on (backB_spec hb j ops[j] (by simp [hj]) e he) (Nat.lt_trans (backB_spec hb j ops[j] (by simp [hj]) e he) hj)⟩
        rw [hr] at hm; cases hm
  apply Array.ext
  · simp [hsz]
  · intro i h1 h2
    have := key i (by omega)
    simp [h1] at this ⊢; exact this
theorem wpAny_inv (Inv : Array Bool → Act → World → Prop) (hb : backB ops = true)
    (hs : ∀ listed a w, listed.size = ops.size → Inv listed a w → ∀ i ∈ Region.ready .any ops listed, wpOp P ops Q i (fun a' w' => Inv (listed.setIfInBounds i true) a' w') a w)
    (he : ∀ a w, Inv (Array.replicate ops.size true) a w → Q .normal a w) :
    ∀ (fuel : Nat) (listed : Array Bool) (a : Act) (w : World), listed.size = ops.size → listed.toList.count false ≤ fuel → Inv listed a w → wpAny P .any ops Q fuel listed a w := by
  intro fuel
  induction fuel with
  | zero =>
    intro listed a w hsz hc hI
    have hr : Region.ready .any ops listed = [] := by
      apply List.eq_nil_iff_forall_not_mem.2
      intro i hi
      have h1 := (mem_ready.1 hi).1
      have hlt : i < listed.size := by
        rcases Nat.lt_or_ge i listed.size with h | h
        · exact h
        · simp [Array.getElem?_eq_none h] at h1
      have h2 : listed.toList[i]'(by simpa using hlt) = false := by simpa [hlt] using h1
      have h3 : false ∈ listed.toList := h2 ▸ List.getElem_mem _
      have := List.count_pos_iff.2 h3
      omega
    refine ⟨hr, he a w ?_⟩
    rw [← ready_nil_full hsz hb hr]; exact hI
  | succ fuel ih =>
    intro listed a w hsz hc hI
    refine ⟨fun hr => he a w (by rw [← ready_nil_full hsz hb hr]; exact hI), fun i hi => ?_⟩
    refine wpOp_mono (fun a' w' h => ih _ a' w' (by simp [hsz]) ?_ h) (hs listed a w hsz hI i hi)
    have h1 := (mem_ready.1 hi).1
    have hlt : i < listed.size := by
      rcases Nat.lt_or_ge i listed.size with h | h
      · exact h
      · simp [Array.getElem?_eq_none h] at h1
    have h2 : listed.toList[i]'(by simpa using hlt) = false := by simpa [hlt] using h1
    have h3 : false ∈ listed.toList := h2 ▸ List.getElem_mem _
    have h4 := List.count_pos_iff.2 h3
    rw [Array.toList_setIfInBounds, List.count_set (by simpa using hlt), h2]
    rw [show (false == false) = true from rfl, show (true == false) = false from rfl, if_pos rfl, if_neg (by simp)]
    omega
theorem wp_region_inv {id : Nat} {a : Act} {w : World} (hm : P.follows .mixedOrders = true) (Inv : Array Bool → Act → World → Prop) (hb : backB ops = true)
    (h0 : Inv (Array.replicate ops.size false) a w.drew)
    (hs : ∀ listed a w, listed.size = ops.size → Inv listed a w → ∀ i ∈ Region.ready .any ops listed, wpOp P ops Q i (fun a' w' => Inv (listed.setIfInBounds i true) a' w') a w)
    (he : ∀ a w, Inv (Array.replicate ops.size true) a w → Q .normal a w) : (Code.region id ops true).wp P Q a w := by
  refine wp_region_any hm ?_
  exact wpAny_inv Inv hb hs he ops.size _ a _ (by simp) (by simp [List.count_replicate]) h0
/-- The same, the invariant told of the frame in which the region begins. -/
theorem wp_region_inv2 {id : Nat} {a : Act} {w : World} (hm : P.follows .mixedOrders = true) (Inv : Act → Array Bool → Act → World → Prop) (hb : backB ops = true)
    (h0 : Inv a (Array.replicate ops.size false) a w.drew)
    (hs : ∀ listed a' w, listed.size = ops.size → Inv a listed a' w → ∀ i ∈ Region.ready .any ops listed, wpOp P ops Q i (fun a'' w' => Inv a (listed.setIfInBounds i true) a'' w') a' w)
    (he : ∀ a' w, Inv a (Array.replicate ops.size true) a' w → Q .normal a' w) : (Code.region id ops true).wp P Q a w := wp_region_inv hm (Inv a) hb h0 hs he
end
end Go.Proofs.YtemedepjmnncbaaGreatDoor
