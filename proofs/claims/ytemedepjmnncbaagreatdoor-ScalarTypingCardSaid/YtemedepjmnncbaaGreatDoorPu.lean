namespace Pu
/-! Pure scalar expressions. -/
structure Va where
  f0 : Int
  f1 : Int
  f2 : ByteArray
  deriving DecidableEq
structure Co where
  f0 : ByteArray
  f1 : Int
  deriving DecidableEq
structure Sc where
  f0 : Int
  f1 : Int
  f2 : Va
  f3 : Int
  f4 : List Sc

def vz : Va := ⟨0, 0, ⟨#[]⟩⟩
def cz : Co := ⟨⟨#[]⟩, 0⟩
def scz : Sc := ⟨0, 0, vz, 0, []⟩

theorem Sc.ind {P : Sc → Prop} (h : ∀ k c v o l, (∀ x ∈ l, P x) → P ⟨k, c, v, o, l⟩) (a : Sc) : P a := by
  refine Sc.rec (motive_1 := P) (motive_2 := fun l => ∀ x ∈ l, P x) ?_ ?_ ?_ a
  · intro k c v o l hl; exact h k c v o l hl
  · intro x hx; cases hx
  · intro x l hx hl y hy
    cases hy with
    | head => exact hx
    | tail _ hy => exact hl y hy

/-! ### Equality, size -/
mutual
def eqb : Sc → Sc → Bool
  | ⟨k, c, v, o, l⟩, b => k == b.f0 && (c == b.f1 && (v == b.f2 && (o == b.f3 && eqbs l b.f4)))
def eqbs : List Sc → List Sc → Bool
  | [], [] => true
  | x :: l, y :: m => eqb x y && eqbs l m
  | _, _ => false
end
theorem eqb_iff (a : Sc) : ∀ b, eqb a b = true ↔ a = b := by
  refine Sc.rec (motive_1 := fun a => ∀ b, eqb a b = true ↔ a = b) (motive_2 := fun l => ∀ m, eqbs l m = true ↔ l = m) ?_ ?_ ?_ a
  · intro k c v o l hl b
    cases b with
    | mk k' c' v' o' l' => simp [eqb, hl]
  · intro m; cases m <;> simp [eqbs]
  · intro x l hx hl m
    cases m with
    | nil => simp [eqbs]
    | cons y m => simp [eqbs, hx, hl]
instance : DecidableEq Sc := fun a b => if h : eqb a b = true then isTrue ((eqb_iff a b).1 h) else isFalse (fun e => h ((eqb_iff a b).2 e))
theorem eqb_eq (a b : Sc) : eqb a b = decide (a = b) := by
  by_cases h : a = b
  · simp [h, (eqb_iff b b).2 rfl]
  · simp [h]; exact Bool.eq_false_iff.2 fun e => h ((eqb_iff a b).1 e)

mutual
def size : Sc → Nat
  | ⟨_, _, _, _, l⟩ => 1 + sizes l
def sizes : List Sc → Nat
  | [] => 0
  | x :: l => size x + sizes l
end
theorem size_eq (a : Sc) : size a = 1 + sizes a.f4 := by cases a; simp [size]
theorem size_pos (a : Sc) : 1 ≤ size a := by rw [size_eq]; omega
theorem sizes_append (l m : List Sc) : sizes (l ++ m) = sizes l + sizes m := by
  induction l with
  | nil => simp [sizes]
  | cons x l ih => simp [sizes, ih]; omega
theorem size_mem {x : Sc} {l : List Sc} (h : x ∈ l) : size x ≤ sizes l := by
  induction l with
  | nil => cases h
  | cons y l ih =>
    simp only [sizes]
    cases h with
    | head => omega
    | tail _ h => have := ih h; omega
theorem length_le_sizes (l : List Sc) : l.length ≤ sizes l := by
  induction l with
  | nil => simp [sizes]
  | cons y l ih => simp only [sizes, List.length_cons]; have := size_pos y; omega

/-! ### Validity -/
def vvalid (v : Va) : Bool := if v.f0 = 0 then decide (v.f2.size = 0) else if v.f0 = 1 then decide (v.f1 = 0 ∧ v.f2.size ≤ 255) else if v.f0 = 2 then decide ((v.f1 = 0 ∨ v.f1 = 1) ∧ v.f2.size = 0) else false
def ar (o : Int) : Nat := if o = 3 ∨ o = 13 then 1 else 2
def opIn (o : Int) : Bool := decide (0 ≤ o ∧ o ≤ 13)
def node (k c : Int) (v : Va) (o : Int) (n : Nat) : Bool :=
  if k = 0 then vvalid v && decide (c = 0 ∧ o = 0 ∧ n = 0)
  else if k = 1 then decide (0 ≤ c ∧ v = vz ∧ o = 0 ∧ n = 0)
  else if k = 2 then opIn o && decide (n = ar o ∧ c = 0 ∧ v = vz)
  else false
mutual
def okT : Sc → Bool
  | ⟨k, c, v, o, l⟩ => node k c v o l.length && okTs l
def okTs : List Sc → Bool
  | [] => true
  | x :: l => okT x && okTs l
end
def valid (a : Sc) : Bool := decide (size a ≤ 256) && okT a
theorem okTs_iff (l : List Sc) : okTs l = true ↔ ∀ x ∈ l, okT x = true := by
  induction l with
  | nil => simp [okTs]
  | cons x l ih => simp [okTs, ih]

/-- The three forms of a node of a valid tree. -/
theorem okT_cases {a : Sc} (h : okT a = true) :
    (∃ v, a = ⟨0, 0, v, 0, []⟩ ∧ vvalid v = true) ∨ (∃ c, a = ⟨1, c, vz, 0, []⟩ ∧ 0 ≤ c) ∨
    (∃ o x, a = ⟨2, 0, vz, o, [x]⟩ ∧ (o = 3 ∨ o = 13) ∧ okT x = true) ∨
    (∃ o x y, a = ⟨2, 0, vz, o, [x, y]⟩ ∧ 0 ≤ o ∧ o ≤ 12 ∧ o ≠ 3 ∧ okT x = true ∧ okT y = true) := by
  cases a with
  | mk k c v o l =>
    simp only [okT, Bool.and_eq_true] at h
    obtain ⟨h, hl⟩ := h
    unfold node at h
    split at h
    · simp at h; obtain ⟨h1, rfl, rfl, h2⟩ := h; subst h2; left; rename_i e; subst e; exact ⟨v, rfl, h1⟩
    split at h
    · simp at h; obtain ⟨h1, rfl, rfl, h2⟩ := h; subst h2; right; left; rename_i e; subst e; exact ⟨c, rfl, h1⟩
    split at h
    · rename_i e; subst e
      simp [opIn] at h
      obtain ⟨⟨h1, h2⟩, h3, rfl, rfl⟩ := h
      right; right
      unfold ar at h3
      split at h3
      · rename_i ho
        left
        match l, h3 with
        | [x], _ => simp [okTs] at hl; exact ⟨o, x, rfl, ho, hl⟩
      · rename_i ho
        right
        match l, h3 with
        | [x, y], _ => simp [okTs] at hl; exact ⟨o, x, y, rfl, h1, by omega, by omega, hl.1, hl.2⟩
    · cases h

theorem okT_const (v : Va) : okT ⟨0, 0, v, 0, []⟩ = vvalid v := by simp [okT, okTs, node]
theorem okT_ref (c : Int) : okT ⟨1, c, vz, 0, []⟩ = decide (0 ≤ c) := by simp [okT, okTs, node]
theorem okT_un {o : Int} {x : Sc} (ho : o = 3 ∨ o = 13) (hx : okT x = true) : okT ⟨2, 0, vz, o, [x]⟩ = true := by
  rcases ho with rfl | rfl <;> simp [okT, okTs, node, opIn, ar, hx]
theorem okT_bin {o : Int} {x y : Sc} (h0 : 0 ≤ o) (h1 : o ≤ 12) (h3 : o ≠ 3) (hx : okT x = true) (hy : okT y = true) : okT ⟨2, 0, vz, o, [x, y]⟩ = true := by
  simp [okT, okTs, node, opIn, ar, hx, hy]; omega

/-- Induction over valid trees. -/
theorem okT_ind {P : Sc → Prop} (hc : ∀ v, vvalid v = true → P ⟨0, 0, v, 0, []⟩) (hr : ∀ c, 0 ≤ c → P ⟨1, c, vz, 0, []⟩)
    (hu : ∀ o x, (o = 3 ∨ o = 13) → okT x = true → P x → P ⟨2, 0, vz, o, [x]⟩)
    (hb : ∀ o x y, 0 ≤ o → o ≤ 12 → o ≠ 3 → okT x = true → okT y = true → P x → P y → P ⟨2, 0, vz, o, [x, y]⟩) (a : Sc) (h : okT a = true) : P a := by
  revert h
  refine Sc.ind (P := fun a => okT a = true → P a) ?_ a
  intro k c v o l ih h
  rcases okT_cases h with ⟨v', e, hv⟩ | ⟨c', e, hc'⟩ | ⟨o', x, e, ho, hx⟩ | ⟨o', x, y, e, h0, h1, h3, hx, hy⟩ <;> (rw [e]; injection e with e1 e2 e3 e4 e5; subst e5)
  · exact hc _ hv
  · exact hr _ hc'
  · exact hu _ _ ho hx (ih x (by simp) hx)
  · exact hb _ _ _ h0 h1 h3 hx hy (ih x (by simp) hx) (ih y (by simp) hy)

/-! ### Types -/
def opRes (o : Int) : List Int → Option Int
  | [a] => if o = 3 ∧ a = 0 then some 0 else if o = 13 ∧ a = 2 then some 2 else none
  | [a, b] =>
    if a ≠ b then none
    else if 0 ≤ o ∧ o ≤ 2 then (if a = 0 then some 0 else none)
    else if o = 4 then (if a = 1 then some 1 else none)
    else if 5 ≤ o ∧ o ≤ 10 then (if 0 ≤ a ∧ a ≤ 2 then some 2 else none)
    else if o = 11 ∨ o = 12 then (if a = 2 then some 2 else none)
    else none
  | _ => none
mutual
def typ (cols : List Co) : Sc → Option Int
  | ⟨k, c, v, o, l⟩ =>
    if k = 0 then some v.f0
    else if k = 1 then (if 0 ≤ (cols.getD c.toNat cz).f1 ∧ (cols.getD c.toNat cz).f1 ≤ 2 then some (cols.getD c.toNat cz).f1 else none)
    else (typs cols l).bind (opRes o)
def typs (cols : List Co) : List Sc → Option (List Int)
  | [] => some []
  | x :: l => (typ cols x).bind fun t => (typs cols l).bind fun ts => some (t :: ts)
end

/-! ### References -/
mutual
def refs : Sc → List Int
  | ⟨k, c, _, _, l⟩ => (if k = 1 then [c] else []) ++ refss l
def refss : List Sc → List Int
  | [] => []
  | x :: l => refs x ++ refss l
end
theorem mem_refss {i : Int} {l : List Sc} : i ∈ refss l ↔ ∃ x ∈ l, i ∈ refs x := by
  induction l with
  | nil => simp [refss]
  | cons x l ih => simp [refss, ih]

/-! ### Values -/
def w64 (x : Int) : Int := (x + 9223372036854775808) % 18446744073709551616 - 9223372036854775808
def tr (b : Bool) : Va := ⟨2, if b then 1 else 0, ⟨#[]⟩⟩
/-- The order of texts is a parameter. -/
def cmpV (lt : ByteArray → ByteArray → Bool) (a b : Va) : Int :=
  if a.f0 ≠ b.f0 then (if a.f0 < b.f0 then -1 else 1)
  else if a.f1 ≠ b.f1 then (if a.f1 < b.f1 then -1 else 1)
  else if a.f2 ≠ b.f2 then (if lt a.f2 b.f2 then -1 else 1)
  else 0
def cut255 (s : ByteArray) : ByteArray := s.extract 0 (min s.size 255)
def app (lt : ByteArray → ByteArray → Bool) (o : Int) (a b : Va) : Va :=
  if o = 0 then ⟨0, w64 (a.f1 + b.f1), ⟨#[]⟩⟩
  else if o = 1 then ⟨0, w64 (a.f1 - b.f1), ⟨#[]⟩⟩
  else if o = 2 then ⟨0, w64 (a.f1 * b.f1), ⟨#[]⟩⟩
  else if o = 3 then ⟨0, w64 (-a.f1), ⟨#[]⟩⟩
  else if o = 4 then ⟨1, 0, cut255 (a.f2 ++ b.f2)⟩
  else if o = 5 then tr (decide (cmpV lt a b = 0))
  else if o = 6 then tr (decide (cmpV lt a b ≠ 0))
  else if o = 7 then tr (decide (cmpV lt a b < 0))
  else if o = 8 then tr (decide (cmpV lt a b ≤ 0))
  else if o = 9 then tr (decide (cmpV lt a b > 0))
  else if o = 10 then tr (decide (cmpV lt a b ≥ 0))
  else if o = 11 then tr (decide (a.f1 = 1) && decide (b.f1 = 1))
  else if o = 12 then tr (decide (a.f1 = 1) || decide (b.f1 = 1))
  else tr (decide (a.f1 = 0))
def operate (lt : ByteArray → ByteArray → Bool) (o : Int) (l : List Va) : Va :=
  if l.all vvalid && (opRes o (l.map (·.f0))).isSome then app lt o (l.headD vz) (l.getLastD vz) else vz
mutual
def eval (lt : ByteArray → ByteArray → Bool) (row : List Va) : Sc → Va
  | ⟨k, c, v, o, l⟩ =>
    if k = 0 then v
    else if k = 1 then (if c ≥ row.length then vz else row.getD c.toNat vz)
    else operate lt o (evals lt row l)
def evals (lt : ByteArray → ByteArray → Bool) (row : List Va) : List Sc → List Va
  | [] => []
  | x :: l => eval lt row x :: evals lt row l
end
def Eval (lt : ByteArray → ByteArray → Bool) (row : List Va) (a : Sc) : Va := if valid a then eval lt row a else vz

section
variable (lt : ByteArray → ByteArray → Bool)
/-- A binary operation's value and type. -/
theorem vvalid_kind {v : Va} (h : vvalid v = true) : 0 ≤ v.f0 ∧ v.f0 ≤ 2 := by
  unfold vvalid at h
  split at h
  · omega
  split at h
  · omega
  split at h
  · omega
  · cases h
theorem vvalid_tr (b : Bool) : vvalid (tr b) = true := by cases b <;> decide
theorem size_empty : (⟨#[]⟩ : ByteArray).size = 0 := rfl
theorem cut255_size (s : ByteArray) : (cut255 s).size ≤ 255 := by
  unfold cut255; simp [ByteArray.size_extract]; omega

theorem app_ok {o : Int} {l : List Va} {t : Int} (h : opRes o (l.map (·.f0)) = some t) : vvalid (app lt o (l.headD vz) (l.getLastD vz)) = true ∧ (app lt o (l.headD vz) (l.getLastD vz)).f0 = t := by
  match l with
  | [a] =>
    simp [opRes] at h
    split at h
    · rename_i ho
      obtain ⟨rfl, _⟩ := ho
      injection h with h
      subst h
      simp [app, vvalid, size_empty]
    · split at h
      · rename_i ho
        obtain ⟨rfl, _⟩ := ho
        injection h with h
        subst h
        simp [app, vvalid_tr]; simp [tr]
      · cases h
  | [a, b] =>
    simp only [List.map_cons, List.map_nil, opRes] at h
    simp only [List.headD_cons, List.getLastD_cons, List.getLastD_nil]
    split at h
    · cases h
    split at h
    · rename_i ho
      split at h
      · injection h with h
        subst h
        have : o = 0 ∨ o = 1 ∨ o = 2 := by omega
        rcases this with rfl | rfl | rfl <;> simp [app, vvalid, size_empty]
      · cases h
    split at h
    · rename_i ho
      subst ho
      split at h
      · injection h with h
        subst h
        simp [app, vvalid, cut255_size]
      · cases h
    split at h
    · rename_i ho
      split at h
      · injection h with h
        subst h
        have : o = 5 ∨ o = 6 ∨ o = 7 ∨ o = 8 ∨ o = 9 ∨ o = 10 := by omega
        rcases this with rfl | rfl | rfl | rfl | rfl | rfl <;> simp [app, vvalid_tr] <;> simp [tr]
      · cases h
    split at h
    · rename_i ho
      split at h
      · injection h with h
        subst h
        rcases ho with rfl | rfl <;> simp [app, vvalid_tr] <;> simp [tr]
      · cases h
    · cases h
  | [] => simp [opRes] at h
  | _ :: _ :: _ :: _ => simp [opRes] at h

theorem operate_valid (o : Int) (l : List Va) : vvalid (operate lt o l) = true := by
  unfold operate
  split
  · rename_i h
    rw [Bool.and_eq_true] at h
    obtain ⟨t, ht⟩ := Option.isSome_iff_exists.1 h.2
    exact (app_ok lt ht).1
  · decide
theorem operate_some {o : Int} {l : List Va} {t : Int} (hv : l.all vvalid = true) (h : opRes o (l.map (·.f0)) = some t) : operate lt o l = app lt o (l.headD vz) (l.getLastD vz) := by
  unfold operate; rw [hv, h]; simp

theorem typ_const (cols : List Co) (v : Va) : typ cols ⟨0, 0, v, 0, []⟩ = some v.f0 := by simp [typ]
theorem typ_ref (cols : List Co) (c : Int) : typ cols ⟨1, c, vz, 0, []⟩ = if 0 ≤ (cols.getD c.toNat cz).f1 ∧ (cols.getD c.toNat cz).f1 ≤ 2 then some (cols.getD c.toNat cz).f1 else none := by simp [typ]
theorem eval_const (row : List Va) (v : Va) : eval lt row ⟨0, 0, v, 0, []⟩ = v := by simp [eval]
theorem eval_ref (row : List Va) (c : Int) : eval lt row ⟨1, c, vz, 0, []⟩ = if c ≥ row.length then vz else row.getD c.toNat vz := by simp [eval]
theorem eval_op (row : List Va) (o : Int) (l : List Sc) : eval lt row ⟨2, 0, vz, o, l⟩ = operate lt o (evals lt row l) := by simp [eval]
theorem eval_un (row : List Va) (o : Int) (x : Sc) : eval lt row ⟨2, 0, vz, o, [x]⟩ = operate lt o [eval lt row x] := by simp [eval, evals]
theorem eval_bin (row : List Va) (o : Int) (x y : Sc) : eval lt row ⟨2, 0, vz, o, [x, y]⟩ = operate lt o [eval lt row x, eval lt row y] := by simp [eval, evals]
theorem typ_un (cols : List Co) (o : Int) (x : Sc) : typ cols ⟨2, 0, vz, o, [x]⟩ = (typ cols x).bind fun t => opRes o [t] := by
  simp [typ, typs]; cases typ cols x <;> simp
theorem typ_bin (cols : List Co) (o : Int) (x y : Sc) : typ cols ⟨2, 0, vz, o, [x, y]⟩ = (typ cols x).bind fun t => (typ cols y).bind fun u => opRes o [t, u] := by
  simp [typ, typs]; cases typ cols x <;> simp; cases typ cols y <;> simp

/-- SOUNDNESS. -/
theorem eval_typ {cols : List Co} {row : List Va} (hl : row.length = cols.length) (hf : ∀ i : Nat, i < row.length → vvalid (row.getD i vz) = true ∧ (row.getD i vz).f0 = (cols.getD i cz).f1)
    (a : Sc) (h : okT a = true) (hr : ∀ i ∈ refs a, i < (cols.length : Int)) (t : Int) (ht : typ cols a = some t) : vvalid (eval lt row a) = true ∧ (eval lt row a).f0 = t := by
  revert hr t ht
  refine okT_ind (P := fun a => (∀ i ∈ refs a, i < (cols.length : Int)) → ∀ t, typ cols a = some t → vvalid (eval lt row a) = true ∧ (eval lt row a).f0 = t) ?_ ?_ ?_ ?_ a h
  · intro v hv _ t ht
    simp [typ] at ht
    simp [eval, hv, ht]
  · intro c hc hr t ht
    have hlt := hr c (by simp [refs])
    rw [typ_ref] at ht
    split at ht
    · injection ht with ht
      have hn : ¬ (c ≥ (row.length : Int)) := by omega
      rw [eval_ref, if_neg hn]
      have := hf c.toNat (by omega)
      exact ⟨this.1, this.2.trans ht⟩
    · cases ht
  · intro o x ho hx ih hr t ht
    rw [typ_un] at ht
    obtain ⟨u, hu, ht⟩ := Option.bind_eq_some_iff.1 ht
    obtain ⟨h1, h2⟩ := ih (fun i hi => hr i (by simp [refs, refss, hi])) u hu
    have hop : opRes o ([eval lt row x].map (·.f0)) = some t := by simp [h2, ht]
    rw [eval_un, operate_some lt (by simp [h1]) hop]
    exact app_ok lt hop
  · intro o x y h0 h1 h3 hx hy ihx ihy hr t ht
    rw [typ_bin] at ht
    obtain ⟨u, hu, ht⟩ := Option.bind_eq_some_iff.1 ht
    obtain ⟨u', hu', ht⟩ := Option.bind_eq_some_iff.1 ht
    obtain ⟨x1, x2⟩ := ihx (fun i hi => hr i (by simp [refs, refss, hi])) u hu
    obtain ⟨y1, y2⟩ := ihy (fun i hi => hr i (by simp [refs, refss, hi])) u' hu'
    have hop : opRes o ([eval lt row x, eval lt row y].map (·.f0)) = some t := by simp [x2, y2, ht]
    rw [eval_bin, operate_some lt (by simp [x1, y1]) hop]
    exact app_ok lt hop

/-- The value hangs on the columns referred to, and on the row's length, alone. -/
theorem eval_agree {x y : List Va} (hl : x.length = y.length) (a : Sc) (h : ∀ i ∈ refs a, 0 ≤ i → i < (x.length : Int) → x.getD i.toNat vz = y.getD i.toNat vz) (ho : okT a = true) : eval lt x a = eval lt y a := by
  revert h
  refine okT_ind (P := fun a => (∀ i ∈ refs a, 0 ≤ i → i < (x.length : Int) → x.getD i.toNat vz = y.getD i.toNat vz) → eval lt x a = eval lt y a) ?_ ?_ ?_ ?_ a ho
  · intro v _ _; simp [eval]
  · intro c hc h
    rw [eval_ref, eval_ref, hl]
    split
    · rfl
    · exact h c (by simp [refs]) hc (by omega)
  · intro o u _ _ ih h
    rw [eval_un, eval_un, ih (fun i hi => h i (by simp [refs, refss, hi]))]
  · intro o u v _ _ _ _ _ ihu ihv h
    rw [eval_bin, eval_bin, ihu (fun i hi => h i (by simp [refs, refss, hi])), ihv (fun i hi => h i (by simp [refs, refss, hi]))]
end
end Pu
namespace Pu
/-! ### Folding -/
section
variable (lt : ByteArray → ByteArray → Bool)
def con (v : Va) : Sc := ⟨0, 0, v, 0, []⟩
def logic (o : Int) (e a b : Sc) : Sc :=
  if eqb a (con (tr (decide (o = 11)))) then b
  else if eqb b (con (tr (decide (o = 11)))) then a
  else if eqb a (con (tr (decide (o = 12)))) || eqb b (con (tr (decide (o = 12)))) then con (tr (decide (o = 12)))
  else e
def isCon (a : Sc) : Bool := decide (a.f0 = 0)
/-- The rules, for folded operands. -/
def rule (k c : Int) (v : Va) (o : Int) (l : List Sc) : Sc :=
  if l.all isCon && (opRes o (l.map (·.f2.f0))).isSome then con (operate lt o (l.map (·.f2)))
  else if o = 11 ∨ o = 12 then logic o ⟨k, c, v, o, l⟩ (l.headD scz) (l.getLastD scz)
  else if (o = 13 ∨ o = 3) ∧ (l.headD scz).f0 = 2 ∧ (l.headD scz).f3 = o then (l.headD scz).f4.headD scz
  else ⟨k, c, v, o, l⟩
mutual
def fold : Sc → Sc
  | ⟨k, c, v, o, l⟩ => if k ≠ 2 then ⟨k, c, v, o, l⟩ else rule lt k c v o (folds l)
def folds : List Sc → List Sc
  | [] => []
  | x :: l => fold x :: folds l
end
theorem fold_const (v : Va) : fold lt ⟨0, 0, v, 0, []⟩ = ⟨0, 0, v, 0, []⟩ := by simp [fold]
theorem fold_ref (c : Int) : fold lt ⟨1, c, vz, 0, []⟩ = ⟨1, c, vz, 0, []⟩ := by simp [fold]
theorem fold_op (o : Int) (l : List Sc) : fold lt ⟨2, 0, vz, o, l⟩ = rule lt 2 0 vz o (folds lt l) := by simp [fold]
theorem fold_un (o : Int) (x : Sc) : fold lt ⟨2, 0, vz, o, [x]⟩ = rule lt 2 0 vz o [fold lt x] := by simp [fold, folds]
theorem fold_bin (o : Int) (x y : Sc) : fold lt ⟨2, 0, vz, o, [x, y]⟩ = rule lt 2 0 vz o [fold lt x, fold lt y] := by simp [fold, folds]
theorem logic_cases (o : Int) (e a b : Sc) : (logic o e a b = b ∧ a = con (tr (decide (o = 11)))) ∨ (logic o e a b = a ∧ b = con (tr (decide (o = 11)))) ∨
    (logic o e a b = con (tr (decide (o = 12))) ∧ (a = con (tr (decide (o = 12))) ∨ b = con (tr (decide (o = 12))))) ∨
    (logic o e a b = e ∧ a ≠ con (tr (decide (o = 11))) ∧ b ≠ con (tr (decide (o = 11))) ∧ a ≠ con (tr (decide (o = 12))) ∧ b ≠ con (tr (decide (o = 12)))) := by
  unfold logic
  simp only [eqb_eq, decide_eq_true_eq, Bool.or_eq_true]
  by_cases h1 : a = con (tr (decide (o = 11)))
  · exact .inl ⟨if_pos h1, h1⟩
  by_cases h2 : b = con (tr (decide (o = 11)))
  · rw [if_neg h1, if_pos h2]; exact .inr (.inl ⟨rfl, h2⟩)
  rw [if_neg h1, if_neg h2]
  by_cases h3 : a = con (tr (decide (o = 12))) ∨ b = con (tr (decide (o = 12)))
  · rw [if_pos h3]; exact .inr (.inr (.inl ⟨rfl, h3⟩))
  · rw [if_neg h3]; exact .inr (.inr (.inr ⟨rfl, h1, h2, fun e => h3 (.inl e), fun e => h3 (.inr e)⟩))

/-- What the rules make of a unary operation. -/
theorem rule_un {o : Int} (ho : o = 3 ∨ o = 13) (x : Sc) :
    (rule lt 2 0 vz o [x] = con (operate lt o [x.f2]) ∧ x.f0 = 0 ∧ (opRes o [x.f2.f0]).isSome) ∨
    (rule lt 2 0 vz o [x] = x.f4.headD scz ∧ x.f0 = 2 ∧ x.f3 = o) ∨
    (rule lt 2 0 vz o [x] = ⟨2, 0, vz, o, [x]⟩ ∧ ¬ (x.f0 = 0 ∧ (opRes o [x.f2.f0]).isSome) ∧ ¬ (x.f0 = 2 ∧ x.f3 = o)) := by
  unfold rule
  split
  · rename_i h; simp [isCon] at h; exact .inl ⟨rfl, h.1, h.2⟩
  rename_i h1
  simp [isCon] at h1
  rw [if_neg (show ¬ (o = 11 ∨ o = 12) by omega)]
  split
  · rename_i h; exact .inr (.inl ⟨rfl, h.2⟩)
  · rename_i h; exact .inr (.inr ⟨rfl, fun e => by have := h1 e.1; rw [this] at e; simp at e, fun e => h ⟨by omega, e⟩⟩)
theorem rule_bin {o : Int} (h0 : 0 ≤ o) (h1 : o ≤ 12) (h3 : o ≠ 3) (x y : Sc) :
    (rule lt 2 0 vz o [x, y] = con (operate lt o [x.f2, y.f2]) ∧ x.f0 = 0 ∧ y.f0 = 0 ∧ (opRes o [x.f2.f0, y.f2.f0]).isSome) ∨
    ((o = 11 ∨ o = 12) ∧ rule lt 2 0 vz o [x, y] = logic o ⟨2, 0, vz, o, [x, y]⟩ x y ∧ ¬ (x.f0 = 0 ∧ y.f0 = 0 ∧ (opRes o [x.f2.f0, y.f2.f0]).isSome)) ∨
    (¬ (o = 11 ∨ o = 12) ∧ rule lt 2 0 vz o [x, y] = ⟨2, 0, vz, o, [x, y]⟩ ∧ ¬ (x.f0 = 0 ∧ y.f0 = 0 ∧ (opRes o [x.f2.f0, y.f2.f0]).isSome)) := by
  unfold rule
  split
  · rename_i h; simp [isCon] at h; exact .inl ⟨rfl, h.1.1, h.1.2, h.2⟩
  rename_i h1
  simp [isCon] at h1
  have h1' : ¬ (x.f0 = 0 ∧ y.f0 = 0 ∧ (opRes o [x.f2.f0, y.f2.f0]).isSome) := fun e => by have := h1 e.1 e.2.1; rw [this] at e; simp at e
  split
  · rename_i h; exact .inr (.inl ⟨h, rfl, h1'⟩)
  · rename_i h; rw [if_neg (by omega)]; exact .inr (.inr ⟨h, rfl, h1'⟩)

/-- A valid tree whose kind is that of a constant is one. -/
theorem okT_con {a : Sc} (h : okT a = true) (h0 : a.f0 = 0) : a = con a.f2 ∧ vvalid a.f2 = true := by
  rcases okT_cases h with ⟨v, rfl, hv⟩ | ⟨c, rfl, _⟩ | ⟨o, x, rfl, _⟩ | ⟨o, x, y, rfl, _⟩
  · exact ⟨rfl, hv⟩
  all_goals (simp at h0)
theorem okT_unary {a : Sc} {o : Int} (h : okT a = true) (h0 : a.f0 = 2) (h3 : a.f3 = o) (ho : o = 3 ∨ o = 13) : ∃ x, a = ⟨2, 0, vz, o, [x]⟩ ∧ okT x = true := by
  rcases okT_cases h with ⟨v, rfl, hv⟩ | ⟨c, rfl, _⟩ | ⟨o', x, rfl, _, hx⟩ | ⟨o', x, y, rfl, _, hh, hh', _⟩
  · simp at h0
  · simp at h0
  · simp at h3; subst h3; exact ⟨x, rfl, hx⟩
  · simp at h3; omega
theorem okT_con_mk {v : Va} (h : vvalid v = true) : okT (con v) = true := by rw [con, okT_const]; exact h
theorem size_con (v : Va) : size (con v) = 1 := by simp [con, size, sizes]

/-- What holds of the folded form of a valid tree. -/
theorem fold_ok (a : Sc) (h : okT a = true) : okT (fold lt a) = true ∧ size (fold lt a) ≤ size a := by
  refine okT_ind (P := fun a => okT (fold lt a) = true ∧ size (fold lt a) ≤ size a) ?_ ?_ ?_ ?_ a h
  · intro v hv; rw [fold_const]; exact ⟨by rw [okT_const]; exact hv, Nat.le_refl _⟩
  · intro c hc; rw [fold_ref]; exact ⟨by rw [okT_ref]; simp [hc], Nat.le_refl _⟩
  · intro o x ho hx ih
    rw [fold_un]
    rcases rule_un lt ho (fold lt x) with ⟨e, _, _⟩ | ⟨e, h0, h3⟩ | ⟨e, _, _⟩ <;> rw [e]
    · exact ⟨okT_con_mk (operate_valid lt _ _), by rw [size_con]; exact size_pos _⟩
    · obtain ⟨z, hz, hzo⟩ := okT_unary ih.1 h0 h3 ho
      rw [hz] at ih ⊢
      have := ih.2
      simp only [size, sizes, List.headD_cons] at this ⊢
      exact ⟨hzo, by omega⟩
    · have := ih.2
      exact ⟨okT_un ho ih.1, by simp only [size, sizes]; omega⟩
  · intro o x y h0 h1 h3 hx hy ihx ihy
    rw [fold_bin]
    have b1 := ihx.2
    have b2 := ihy.2
    rcases rule_bin lt h0 h1 h3 (fold lt x) (fold lt y) with ⟨e, _⟩ | ⟨_, e, _⟩ | ⟨_, e, _⟩ <;> rw [e]
    · exact ⟨okT_con_mk (operate_valid lt _ _), by rw [size_con]; exact size_pos _⟩
    · rcases logic_cases o ⟨2, 0, vz, o, [fold lt x, fold lt y]⟩ (fold lt x) (fold lt y) with ⟨e, _⟩ | ⟨e, _⟩ | ⟨e, _⟩ | ⟨e, _⟩ <;> rw [e]
      · exact ⟨ihy.1, by simp only [size, sizes]; omega⟩
      · exact ⟨ihx.1, by simp only [size, sizes]; omega⟩
      · exact ⟨okT_con_mk (vvalid_tr _), by rw [size_con]; exact size_pos _⟩
      · exact ⟨okT_bin h0 h1 h3 ihx.1 ihy.1, by simp only [size, sizes]; omega⟩
    · exact ⟨okT_bin h0 h1 h3 ihx.1 ihy.1, by simp only [size, sizes]; omega⟩

/-- In normal form: no rule applies anywhere. -/
inductive Nf : Sc → Prop
  | con (v : Va) : Nf ⟨0, 0, v, 0, []⟩
  | ref (c : Int) : Nf ⟨1, c, vz, 0, []⟩
  | un (o : Int) (x : Sc) : (o = 3 ∨ o = 13) → Nf x → rule lt 2 0 vz o [x] = ⟨2, 0, vz, o, [x]⟩ → Nf ⟨2, 0, vz, o, [x]⟩
  | bin (o : Int) (x y : Sc) : Nf x → Nf y → rule lt 2 0 vz o [x, y] = ⟨2, 0, vz, o, [x, y]⟩ → Nf ⟨2, 0, vz, o, [x, y]⟩
theorem Nf.fold {a : Sc} (h : Nf lt a) : fold lt a = a := by
  induction h with
  | con v => rw [fold_const]
  | ref c => rw [fold_ref]
  | un o x _ _ hr ih => rw [fold_un, ih, hr]
  | bin o x y _ _ hr ihx ihy => rw [fold_bin, ihx, ihy, hr]
theorem fold_nf (a : Sc) (h : okT a = true) : Nf lt (Pu.fold lt a) := by
  refine okT_ind (P := fun a => Nf lt (Pu.fold lt a)) ?_ ?_ ?_ ?_ a h
  · intro v hv; rw [fold_const]; exact .con v
  · intro c hc; rw [fold_ref]; exact .ref c
  · intro o x ho hx ih
    rw [fold_un]
    rcases rule_un lt ho (Pu.fold lt x) with ⟨e, _, _⟩ | ⟨e, h0, h3⟩ | ⟨e, _, _⟩
    · rw [e]; exact .con _
    · rw [e]
      obtain ⟨z, hz, hzo⟩ := okT_unary (fold_ok lt x hx).1 h0 h3 ho
      rw [hz] at ih ⊢
      cases ih with
      | un _ _ _ hn _ => exact hn
    · have e' := e; rw [e]; exact .un o _ ho ih e'
  · intro o x y h0 h1 h3 hx hy ihx ihy
    rw [fold_bin]
    rcases rule_bin lt h0 h1 h3 (Pu.fold lt x) (Pu.fold lt y) with ⟨e, _⟩ | ⟨_, e, _⟩ | ⟨_, e, _⟩
    · rw [e]; exact .con _
    · have e' := e
      rw [e]
      rcases logic_cases o ⟨2, 0, vz, o, [Pu.fold lt x, Pu.fold lt y]⟩ (Pu.fold lt x) (Pu.fold lt y) with ⟨e, _⟩ | ⟨e, _⟩ | ⟨e, _⟩ | ⟨e, _⟩ <;> rw [e]
      · exact ihy
      · exact ihx
      · exact .con _
      · rw [e] at e'; exact .bin o _ _ ihx ihy e'
    · have e' := e; rw [e]; exact .bin o _ _ ihx ihy e'
/-- Folding again changes nothing. -/
theorem fold_fold (a : Sc) (h : okT a = true) : fold lt (fold lt a) = fold lt a := (fold_nf lt a h).fold

/-- Folding keeps the type, and what an expression refers to is among what it referred to. -/
theorem fold_refs (a : Sc) (h : okT a = true) : ∀ i ∈ refs (fold lt a), i ∈ refs a := by
  refine okT_ind (P := fun a => ∀ i ∈ refs (fold lt a), i ∈ refs a) ?_ ?_ ?_ ?_ a h
  · intro v hv; rw [fold_const]; exact fun i hi => hi
  · intro c hc; rw [fold_ref]; exact fun i hi => hi
  · intro o x ho hx ih
    rw [fold_un]
    rcases rule_un lt ho (fold lt x) with ⟨e, _, _⟩ | ⟨e, h0, h3⟩ | ⟨e, _, _⟩ <;> rw [e] <;> intro i hi
    · simp [con, refs, refss] at hi
    · obtain ⟨z, hz, hzo⟩ := okT_unary (fold_ok lt x hx).1 h0 h3 ho
      rw [hz] at ih hi
      have := ih i (by simpa [refs, refss] using hi)
      simp [refs, refss, this]
    · simp [refs, refss] at hi ⊢; exact ih i hi
  · intro o x y h0 h1 h3 hx hy ihx ihy
    rw [fold_bin]
    have hx' : ∀ i ∈ refs (fold lt x), i ∈ refs ⟨2, 0, vz, o, [x, y]⟩ := fun i hi => by simp [refs, refss, ihx i hi]
    have hy' : ∀ i ∈ refs (fold lt y), i ∈ refs ⟨2, 0, vz, o, [x, y]⟩ := fun i hi => by simp [refs, refss, ihy i hi]
    have hb : ∀ i ∈ refs ⟨2, 0, vz, o, [fold lt x, fold lt y]⟩, i ∈ refs ⟨2, 0, vz, o, [x, y]⟩ := fun i hi => by
      simp [refs, refss] at hi
      rcases hi with hi | hi
      · exact hx' i hi
      · exact hy' i hi
    rcases rule_bin lt h0 h1 h3 (fold lt x) (fold lt y) with ⟨e, _⟩ | ⟨_, e, _⟩ | ⟨_, e, _⟩ <;> rw [e]
    · intro i hi; simp [con, refs, refss] at hi
    · rcases logic_cases o ⟨2, 0, vz, o, [fold lt x, fold lt y]⟩ (fold lt x) (fold lt y) with ⟨e, _⟩ | ⟨e, _⟩ | ⟨e, _⟩ | ⟨e, _⟩ <;> rw [e]
      · exact hy'
      · exact hx'
      · intro i hi; simp [con, refs, refss] at hi
      · exact hb
    · exact hb
theorem opRes_logic {o a b t : Int} (ho : o = 11 ∨ o = 12) (h : opRes o [a, b] = some t) : a = 2 ∧ b = 2 ∧ t = 2 := by
  rcases ho with rfl | rfl <;> simp [opRes] at h <;> omega
theorem opRes_un {o a t : Int} (h : opRes o [a] = some t) : a = t := by
  simp only [opRes] at h
  split at h
  · injection h with h; omega
  split at h
  · injection h with h; omega
  · cases h
theorem fold_typ (cols : List Co) (a : Sc) (h : okT a = true) : ∀ t, typ cols a = some t → typ cols (fold lt a) = some t := by
  refine okT_ind (P := fun a => ∀ t, typ cols a = some t → typ cols (fold lt a) = some t) ?_ ?_ ?_ ?_ a h
  · intro v hv t ht; rw [fold_const]; exact ht
  · intro c hc t ht; rw [fold_ref]; exact ht
  · intro o x ho hx ih t ht
    rw [typ_un] at ht
    obtain ⟨u, hu, ht⟩ := Option.bind_eq_some_iff.1 ht
    have hu' := ih u hu
    rw [fold_un]
    rcases rule_un lt ho (fold lt x) with ⟨e, h0, _⟩ | ⟨e, h0, h3⟩ | ⟨e, _, _⟩ <;> rw [e]
    · obtain ⟨hc, hv⟩ := okT_con (fold_ok lt x hx).1 h0
      rw [hc, con, typ_const] at hu'
      injection hu' with hu'
      have hop : opRes o ([(fold lt x).f2].map (·.f0)) = some t := by simp [hu', ht]
      rw [con, typ_const, operate_some lt (by simp [hv]) hop, (app_ok lt hop).2]
    · obtain ⟨z, hz, hzo⟩ := okT_unary (fold_ok lt x hx).1 h0 h3 ho
      rw [hz, typ_un] at hu'
      rw [hz]
      obtain ⟨q, hq, hq'⟩ := Option.bind_eq_some_iff.1 hu'
      have e1 := opRes_un ht
      have e2 := opRes_un hq'
      simp only [List.headD_cons]
      rw [hq, ← e1, ← e2]
    · rw [typ_un, hu']; exact ht
  · intro o x y h0 h1 h3 hx hy ihx ihy t ht
    rw [typ_bin] at ht
    obtain ⟨u, hu, ht⟩ := Option.bind_eq_some_iff.1 ht
    obtain ⟨u', hu', ht⟩ := Option.bind_eq_some_iff.1 ht
    have tx := ihx u hu
    have ty := ihy u' hu'
    rw [fold_bin]
    have hb : typ cols ⟨2, 0, vz, o, [fold lt x, fold lt y]⟩ = some t := by rw [typ_bin, tx, ty]; exact ht
    rcases rule_bin lt h0 h1 h3 (fold lt x) (fold lt y) with ⟨e, c0, c1, _⟩ | ⟨ho, e, _⟩ | ⟨_, e, _⟩ <;> rw [e]
    · obtain ⟨hc, hv⟩ := okT_con (fold_ok lt x hx).1 c0
      obtain ⟨hc', hv'⟩ := okT_con (fold_ok lt y hy).1 c1
      rw [hc, con, typ_const] at tx
      rw [hc', con, typ_const] at ty
      injection tx with tx
      injection ty with ty
      have hop : opRes o ([(fold lt x).f2, (fold lt y).f2].map (·.f0)) = some t := by simp [tx, ty, ht]
      rw [con, typ_const, operate_some lt (by simp [hv, hv']) hop, (app_ok lt hop).2]
    · obtain ⟨r1, r2, r3⟩ := opRes_logic ho ht
      rcases logic_cases o ⟨2, 0, vz, o, [fold lt x, fold lt y]⟩ (fold lt x) (fold lt y) with ⟨e, _⟩ | ⟨e, _⟩ | ⟨e, _⟩ | ⟨e, _⟩ <;> rw [e]
      · rw [ty, r2, r3]
      · rw [tx, r1, r3]
      · rw [con, typ_const, r3]; rfl
      · exact hb
    · exact hb

theorem ba_empty {s : ByteArray} (h : s.size = 0) : s = ⟨#[]⟩ := by
  cases s with
  | mk d =>
    have : d.size = 0 := h
    rw [Array.size_eq_zero_iff.1 this]
/-- A Boolean. -/
theorem vvalid_bool {v : Va} (h : vvalid v = true) (hk : v.f0 = 2) : v = tr true ∨ v = tr false := by
  cases v with
  | mk k n s =>
    simp at hk
    subst hk
    simp [vvalid] at h
    obtain ⟨h1, h2⟩ := h
    have hs : s = ⟨#[]⟩ := h2
    subst hs
    rcases h1 with rfl | rfl
    · right; rfl
    · left; rfl
theorem tr_int (b : Bool) : (tr b).f1 = if b then 1 else 0 := rfl
theorem operate_logic {o : Int} (ho : o = 11 ∨ o = 12) (p q : Bool) : operate lt o [tr p, tr q] = tr (if o = 11 then p && q else p || q) := by
  rcases ho with rfl | rfl <;> cases p <;> cases q <;> rfl

section
variable {cols : List Co} {row : List Va}
theorem w64_neg_neg {n : Int} (h0 : -9223372036854775808 ≤ n) (h1 : n ≤ 9223372036854775807) : w64 (-(w64 (-n))) = n := by unfold w64; omega
end
/-- The whole numbers of a value are of 64 bits. -/
def vr (v : Va) : Prop := -9223372036854775808 ≤ v.f1 ∧ v.f1 ≤ 9223372036854775807
theorem vr_w64 (x : Int) : -9223372036854775808 ≤ w64 x ∧ w64 x ≤ 9223372036854775807 := by unfold w64; omega
theorem vr_tr (b : Bool) : vr (tr b) := by unfold vr; cases b <;> decide
theorem vr_vz : vr vz := by unfold vr; decide
theorem vr_app (o : Int) (a b : Va) : vr (app lt o a b) := by
  have ite_ : ∀ (c : Prop) [Decidable c] (x y : Va), vr x → vr y → vr (if c then x else y) := fun c _ x y hx hy => by split <;> assumption
  unfold app
  repeat' refine ite_ _ _ _ ?_ ?_
  all_goals first | exact vr_w64 _ | exact vr_tr _ | (unfold vr; simp)
theorem vr_operate (o : Int) (l : List Va) : vr (operate lt o l) := by
  unfold operate
  split
  · exact vr_app lt _ _ _
  · exact vr_vz
mutual
def vrs : Sc → Prop
  | ⟨_, _, v, _, l⟩ => vr v ∧ vrss l
def vrss : List Sc → Prop
  | [] => True
  | x :: l => vrs x ∧ vrss l
end
theorem vr_eval {row : List Va} (hr : ∀ i : Nat, i < row.length → vr (row.getD i vz)) (a : Sc) (h : okT a = true) : vrs a → vr (eval lt row a) := by
  refine okT_ind (P := fun a => vrs a → vr (eval lt row a)) ?_ ?_ ?_ ?_ a h
  · intro v _ hv; rw [eval_const]; exact hv.1
  · intro c hc _
    rw [eval_ref]
    split
    · exact vr_vz
    · exact hr _ (by omega)
  · intro o x _ _ _ _; rw [eval_un]; exact vr_operate lt _ _
  · intro o x y _ _ _ _ _ _ _ _; rw [eval_bin]; exact vr_operate lt _ _

theorem operate_double {o : Int} (ho : o = 3 ∨ o = 13) {v : Va} {t : Int} (hv : vvalid v = true) (hr : vr v) (h : opRes o [v.f0] = some t) : operate lt o [operate lt o [v]] = v := by
  have hop : opRes o ([v].map (·.f0)) = some t := by simpa using h
  have e := operate_some lt (l := [v]) (by simp [hv]) hop
  have ⟨a1, a2⟩ := app_ok lt hop
  have et := opRes_un h
  have e2 := operate_some lt (o := o) (l := [operate lt o [v]]) (t := t) (by rw [e]; simp at a1 ⊢; exact a1) (by rw [e]; simp only [List.map_cons, List.map_nil]; rw [a2, ← et, h, et])
  rw [e2, e]
  simp only [List.headD_cons, List.getLastD_cons, List.getLastD_nil]
  rcases ho with rfl | rfl
  · simp [opRes] at h
    obtain ⟨h0, _⟩ := h
    cases v with
    | mk k n s =>
      simp at h0; subst h0
      simp [vvalid] at hv
      have hs : s = ⟨#[]⟩ := hv
      subst hs
      simp only [app]
      have := w64_neg_neg hr.1 hr.2
      simp at this
      simp [this]
  · simp [opRes] at h
    rcases vvalid_bool hv h.1 with rfl | rfl <;> rfl

/-- Folding keeps the value of an expression that has a type. -/
theorem fold_eval {cols : List Co} {row : List Va} (hl : row.length = cols.length) (hf : ∀ i : Nat, i < row.length → vvalid (row.getD i vz) = true ∧ (row.getD i vz).f0 = (cols.getD i cz).f1)
    (hrr : ∀ i : Nat, i < row.length → vr (row.getD i vz))
    (a : Sc) (h : okT a = true) : (∀ i ∈ refs a, i < (cols.length : Int)) → vrs a → ∀ t, typ cols a = some t → eval lt row (fold lt a) = eval lt row a ∧ vrs (fold lt a) := by
  refine okT_ind (P := fun a => (∀ i ∈ refs a, i < (cols.length : Int)) → vrs a → ∀ t, typ cols a = some t → eval lt row (fold lt a) = eval lt row a ∧ vrs (fold lt a)) ?_ ?_ ?_ ?_ a h
  · intro v hv _ hz t ht; rw [fold_const]; exact ⟨rfl, hz⟩
  · intro c hc _ hz t ht; rw [fold_ref]; exact ⟨rfl, hz⟩
  · intro o x ho hx ih hr hz t ht
    rw [typ_un] at ht
    obtain ⟨u, hu, ht⟩ := Option.bind_eq_some_iff.1 ht
    have hr' : ∀ i ∈ refs x, i < (cols.length : Int) := fun i hi => hr i (by simp [refs, refss, hi])
    have hz' : vrs x := hz.2.1
    obtain ⟨ih, ihz⟩ := ih hr' hz' u hu
    have sx := eval_typ lt hl hf x hx hr' u hu
    rw [fold_un, eval_un, ← ih]
    rcases rule_un lt ho (fold lt x) with ⟨e, h0, _⟩ | ⟨e, h0, h3⟩ | ⟨e, _, _⟩ <;> rw [e]
    · obtain ⟨hc, hv⟩ := okT_con (fold_ok lt x hx).1 h0
      rw [con, eval_const]
      refine ⟨?_, vr_operate lt _ _, trivial⟩
      conv => rhs; rw [hc, con, eval_const]
    · obtain ⟨z, hz2, hzo⟩ := okT_unary (fold_ok lt x hx).1 h0 h3 ho
      have tx := fold_typ lt cols x hx u hu
      rw [hz2, typ_un] at tx
      obtain ⟨q, hq, hq'⟩ := Option.bind_eq_some_iff.1 tx
      have hrz : ∀ i ∈ refs z, i < (cols.length : Int) := fun i hi => hr' i (fold_refs lt x hx i (by rw [hz2]; simp [refs, refss, hi]))
      have sz := eval_typ lt hl hf z hzo hrz q hq
      rw [hz2] at ihz
      have ez : vrs z := ihz.2.1
      rw [hz2]
      simp only [List.headD_cons]
      rw [eval_un, operate_double lt ho sz.1 (vr_eval lt hrr z hzo ez) (by rw [sz.2]; exact hq')]
      exact ⟨rfl, ez⟩
    · rw [eval_un]
      exact ⟨rfl, by simp [vrs, vrss, ihz, vr_vz]⟩
  · intro o x y h0 h1 h3 hx hy ihx ihy hr hz t ht
    rw [typ_bin] at ht
    obtain ⟨u, hu, ht⟩ := Option.bind_eq_some_iff.1 ht
    obtain ⟨u', hu', ht⟩ := Option.bind_eq_some_iff.1 ht
    have hrx : ∀ i ∈ refs x, i < (cols.length : Int) := fun i hi => hr i (by simp [refs, refss, hi])
    have hry : ∀ i ∈ refs y, i < (cols.length : Int) := fun i hi => hr i (by simp [refs, refss, hi])
    obtain ⟨ex, zx⟩ := ihx hrx hz.2.1 u hu
    obtain ⟨ey, zy⟩ := ihy hry hz.2.2.1 u' hu'
    have sx := eval_typ lt hl hf x hx hrx u hu
    have sy := eval_typ lt hl hf y hy hry u' hu'
    rw [fold_bin, eval_bin, ← ex, ← ey]
    rw [← ex] at sx
    rw [← ey] at sy
    have hb : eval lt row ⟨2, 0, vz, o, [fold lt x, fold lt y]⟩ = operate lt o [eval lt row (fold lt x), eval lt row (fold lt y)] ∧ vrs ⟨2, 0, vz, o, [fold lt x, fold lt y]⟩ :=
      ⟨eval_bin lt row o _ _, by simp [vrs, vrss, zx, zy, vr_vz]⟩
    rcases rule_bin lt h0 h1 h3 (fold lt x) (fold lt y) with ⟨e, c0, c1, _⟩ | ⟨ho, e, _⟩ | ⟨_, e, _⟩ <;> rw [e]
    · obtain ⟨hc, hv⟩ := okT_con (fold_ok lt x hx).1 c0
      obtain ⟨hc', hv'⟩ := okT_con (fold_ok lt y hy).1 c1
      rw [con, eval_const]
      refine ⟨?_, vr_operate lt _ _, trivial⟩
      conv => rhs; rw [hc, hc', con, con, eval_const, eval_const]
    · obtain ⟨r1, r2, r3⟩ := opRes_logic ho ht
      have bx := vvalid_bool sx.1 (sx.2.trans r1)
      have bY := vvalid_bool sy.1 (sy.2.trans r2)
      have key : ∀ p q : Bool, eval lt row (fold lt x) = tr p → eval lt row (fold lt y) = tr q → operate lt o [eval lt row (fold lt x), eval lt row (fold lt y)] = tr (if o = 11 then p && q else p || q) := fun p q e1 e2 => by rw [e1, e2, operate_logic lt ho]
      obtain ⟨p, hp⟩ : ∃ p, eval lt row (fold lt x) = tr p := by rcases bx with h | h <;> exact ⟨_, h⟩
      obtain ⟨q, hq⟩ : ∃ q, eval lt row (fold lt y) = tr q := by rcases bY with h | h <;> exact ⟨_, h⟩
      have tr_inj : ∀ p q : Bool, tr p = tr q → p = q := by decide
      rw [key p q hp hq]
      rcases logic_cases o ⟨2, 0, vz, o, [fold lt x, fold lt y]⟩ (fold lt x) (fold lt y) with ⟨e, e'⟩ | ⟨e, e'⟩ | ⟨e, e'⟩ | ⟨e, _⟩ <;> rw [e]
      · rw [e', con, eval_const] at hp
        have := tr_inj _ _ hp
        subst this
        refine ⟨?_, zy⟩
        rw [hq]; rcases ho with rfl | rfl <;> simp
      · rw [e', con, eval_const] at hq
        have := tr_inj _ _ hq
        subst this
        refine ⟨?_, zx⟩
        rw [hp]; rcases ho with rfl | rfl <;> simp
      · refine ⟨?_, vr_tr _, trivial⟩
        rw [con, eval_const]
        rcases e' with e' | e'
        · rw [e', con, eval_const] at hp
          have := tr_inj _ _ hp
          subst this
          rcases ho with rfl | rfl <;> simp
        · rw [e', con, eval_const] at hq
          have := tr_inj _ _ hq
          subst this
          rcases ho with rfl | rfl <;> simp
      · rw [hb.1, key p q hp hq]; exact ⟨rfl, hb.2⟩
    · exact hb
end
end Pu
namespace Pu
/-! ### Substitution -/
section
variable (lt : ByteArray → ByteArray → Bool)
mutual
def repl (l : List Sc) : Sc → Sc
  | ⟨k, c, v, o, xs⟩ => if k = 1 then l.getD c.toNat scz else ⟨k, c, v, o, repls l xs⟩
def repls (l : List Sc) : List Sc → List Sc
  | [] => []
  | x :: xs => repl l x :: repls l xs
end
theorem repl_const (l : List Sc) (v : Va) : repl l ⟨0, 0, v, 0, []⟩ = ⟨0, 0, v, 0, []⟩ := by simp [repl, repls]
theorem repl_ref (l : List Sc) (c : Int) : repl l ⟨1, c, vz, 0, []⟩ = l.getD c.toNat scz := by simp [repl]
theorem repl_un (l : List Sc) (o : Int) (x : Sc) : repl l ⟨2, 0, vz, o, [x]⟩ = ⟨2, 0, vz, o, [repl l x]⟩ := by simp [repl, repls]
theorem repl_bin (l : List Sc) (o : Int) (x y : Sc) : repl l ⟨2, 0, vz, o, [x, y]⟩ = ⟨2, 0, vz, o, [repl l x, repl l y]⟩ := by simp [repl, repls]
theorem repl_ok (l : List Sc) (hl : ∀ x ∈ l, okT x = true) (a : Sc) (h : okT a = true) : (∀ i ∈ refs a, i < (l.length : Int)) → okT (repl l a) = true := by
  refine okT_ind (P := fun a => (∀ i ∈ refs a, i < (l.length : Int)) → okT (repl l a) = true) ?_ ?_ ?_ ?_ a h
  · intro v hv _; rw [repl_const, okT_const]; exact hv
  · intro c hc hr
    have := hr c (by simp [refs])
    rw [repl_ref, List.getD_eq_getElem?_getD, List.getElem?_eq_getElem (show c.toNat < l.length by omega)]
    exact hl _ (List.getElem_mem _)
  · intro o x ho hx ih hr
    rw [repl_un]; exact okT_un ho (ih fun i hi => hr i (by simp [refs, refss, hi]))
  · intro o x y h0 h1 h3 hx hy ihx ihy hr
    rw [repl_bin]; exact okT_bin h0 h1 h3 (ihx fun i hi => hr i (by simp [refs, refss, hi])) (ihy fun i hi => hr i (by simp [refs, refss, hi]))
/-- The value of what was substituted. -/
theorem repl_eval (row : List Va) (l : List Sc) (a : Sc) (h : okT a = true) : (∀ i ∈ refs a, i < (l.length : Int)) → eval lt row (repl l a) = eval lt (l.map (eval lt row)) a := by
  refine okT_ind (P := fun a => (∀ i ∈ refs a, i < (l.length : Int)) → eval lt row (repl l a) = eval lt (l.map (eval lt row)) a) ?_ ?_ ?_ ?_ a h
  · intro v hv _; rw [repl_const, eval_const, eval_const]
  · intro c hc hr
    have := hr c (by simp [refs])
    rw [repl_ref, eval_ref, if_neg (by simp; omega)]
    rw [List.getD_eq_getElem?_getD, List.getD_eq_getElem?_getD, List.getElem?_map, List.getElem?_eq_getElem (show c.toNat < l.length by omega)]
    rfl
  · intro o x ho hx ih hr
    rw [repl_un, eval_un, eval_un, ih fun i hi => hr i (by simp [refs, refss, hi])]
  · intro o x y h0 h1 h3 hx hy ihx ihy hr
    rw [repl_bin, eval_bin, eval_bin, ihx fun i hi => hr i (by simp [refs, refss, hi]), ihy fun i hi => hr i (by simp [refs, refss, hi])]
mutual
def moved (f : Int → Int) : Sc → Sc
  | ⟨k, c, v, o, xs⟩ => ⟨k, if k = 1 then f c else c, v, o, moveds f xs⟩
def moveds (f : Int → Int) : List Sc → List Sc
  | [] => []
  | x :: xs => moved f x :: moveds f xs
end
theorem moved_size (f : Int → Int) (a : Sc) : size (moved f a) = size a := by
  refine Sc.rec (motive_1 := fun a => size (moved f a) = size a) (motive_2 := fun l => sizes (moveds f l) = sizes l) ?_ ?_ ?_ a
  · intro k c v o l hl; simp [moved, size, hl]
  · rfl
  · intro x l hx hl; simp [moveds, sizes, hx, hl]
/-- Remapping is a substitution of references. -/
theorem moved_repl (to : List Int) (a : Sc) (h : okT a = true) : (∀ i ∈ refs a, i < (to.length : Int)) → moved (fun i => to.getD i.toNat 0) a = repl (to.map fun i => ⟨1, i, vz, 0, []⟩) a := by
  refine okT_ind (P := fun a => (∀ i ∈ refs a, i < (to.length : Int)) → moved (fun i => to.getD i.toNat 0) a = repl (to.map fun i => ⟨1, i, vz, 0, []⟩) a) ?_ ?_ ?_ ?_ a h
  · intro v hv _; rw [repl_const]; simp [moved, moveds]
  · intro c hc hr
    have := hr c (by simp [refs])
    rw [repl_ref]
    simp only [moved, moveds, if_true]
    rw [List.getD_eq_getElem?_getD, List.getD_eq_getElem?_getD, List.getElem?_map, List.getElem?_eq_getElem (show c.toNat < to.length by omega)]
    rfl
  · intro o x ho hx ih hr
    rw [repl_un, ← ih fun i hi => hr i (by simp [refs, refss, hi])]; simp [moved, moveds]
  · intro o x y h0 h1 h3 hx hy ihx ihy hr
    rw [repl_bin, ← ihx fun i hi => hr i (by simp [refs, refss, hi]), ← ihy fun i hi => hr i (by simp [refs, refss, hi])]; simp [moved, moveds]

/-! ### Conjunctions -/
def andS : List Sc → Sc
  | [] => con (tr true)
  | x :: l => l.foldl (fun e y => ⟨2, 0, vz, 11, [e, y]⟩) x
mutual
def conj : Sc → List Sc
  | ⟨k, c, v, o, l⟩ => if eqb ⟨k, c, v, o, l⟩ (con (tr true)) then [] else if k = 2 ∧ o = 11 ∧ l.length = 2 then conjs l else [⟨k, c, v, o, l⟩]
def conjs : List Sc → List Sc
  | [] => []
  | x :: l => conj x ++ conjs l
end
theorem conj_and (k c : Int) (v : Va) (x y : Sc) (hk : k = 2) : conj ⟨k, c, v, 11, [x, y]⟩ = conj x ++ conj y := by
  subst hk
  have : eqb ⟨2, c, v, 11, [x, y]⟩ (con (tr true)) = false := by rw [eqb_eq]; simp [con]
  simp [conj, conjs, this]
theorem conj_foldl (l : List Sc) : ∀ x, conj (l.foldl (fun e y => ⟨2, 0, vz, 11, [e, y]⟩) x) = conj x ++ l.flatMap conj := by
  induction l with
  | nil => intro x; simp
  | cons y l ih => intro x; rw [List.foldl_cons, ih, conj_and _ _ _ _ _ rfl]; simp
/-- The conjuncts of a conjunction are those of its parts. -/
theorem conj_andS (l : List Sc) : conj (andS l) = l.flatMap conj := by
  cases l with
  | nil => simp [andS, conj, con]; rw [eqb_eq]; simp
  | cons x l => simp [andS, conj_foldl]
theorem size_foldl (l : List Sc) : ∀ x, size (l.foldl (fun e y => ⟨2, 0, vz, 11, [e, y]⟩) x) = size x + sizes l + l.length := by
  induction l with
  | nil => intro x; simp [sizes]
  | cons y l ih => intro x; rw [List.foldl_cons, ih]; simp [size, sizes]; omega
theorem size_andS (l : List Sc) : size (andS l) ≤ sizes l + l.length + 1 := by
  cases l with
  | nil => simp [andS, size_con, sizes]
  | cons x l => rw [andS, size_foldl]; simp [sizes]; omega
theorem okT_foldl (l : List Sc) : ∀ x, okT x = true → (∀ y ∈ l, okT y = true) → okT (l.foldl (fun e y => ⟨2, 0, vz, 11, [e, y]⟩) x) = true := by
  induction l with
  | nil => intro x hx _; exact hx
  | cons y l ih =>
    intro x hx hl
    exact ih _ (okT_bin (by decide) (by decide) (by decide) hx (hl y (by simp))) (fun z hz => hl z (by simp [hz]))
theorem okT_andS (l : List Sc) (h : ∀ y ∈ l, okT y = true) : okT (andS l) = true := by
  cases l with
  | nil => exact okT_con_mk (vvalid_tr _)
  | cons x l => exact okT_foldl l x (h x (by simp)) (fun z hz => h z (by simp [hz]))
def yes (row : List Va) (a : Sc) : Bool := decide (eval lt row a = tr true)
theorem tr_true_iff {v : Va} : v = tr true ↔ vvalid v = true ∧ v.f0 = 2 ∧ v.f1 = 1 := by
  constructor
  · rintro rfl; exact ⟨vvalid_tr _, rfl, rfl⟩
  · rintro ⟨h1, h2, h3⟩
    rcases vvalid_bool h1 h2 with rfl | rfl
    · rfl
    · simp [tr] at h3
theorem operate_and (p q : Va) : operate lt 11 [p, q] = tr true ↔ p = tr true ∧ q = tr true := by
  constructor
  · intro h
    unfold operate at h
    split at h
    · rename_i hh
      rw [Bool.and_eq_true] at hh
      obtain ⟨hv, ho⟩ := hh
      obtain ⟨t, ht⟩ := Option.isSome_iff_exists.1 ho
      obtain ⟨h1, h2, _⟩ := opRes_logic (.inl rfl) ht
      simp at hv
      simp [app] at h
      have hb : p.f1 = 1 ∧ q.f1 = 1 := by
        by_cases c1 : p.f1 = 1 <;> by_cases c2 : q.f1 = 1 <;> simp [c1, c2, tr] at h ⊢
      exact ⟨tr_true_iff.2 ⟨hv.1, h1, hb.1⟩, tr_true_iff.2 ⟨hv.2, h2, hb.2⟩⟩
    · simp [vz, tr] at h
  · rintro ⟨rfl, rfl⟩; rfl
theorem yes_and (row : List Va) (c : Int) (v : Va) (x y : Sc) : yes lt row ⟨2, c, v, 11, [x, y]⟩ = (yes lt row x && yes lt row y) := by
  have : eval lt row ⟨2, c, v, 11, [x, y]⟩ = operate lt 11 [eval lt row x, eval lt row y] := by simp [eval, evals]
  unfold yes
  rw [this]
  by_cases h : eval lt row x = tr true ∧ eval lt row y = tr true
  · rw [(operate_and lt _ _).2 h]; simp [h]
  · have : ¬ operate lt 11 [eval lt row x, eval lt row y] = tr true := fun e => h ((operate_and lt _ _).1 e)
    simp [this]; intro h1 h2; exact h ⟨h1, h2⟩
theorem yes_foldl (row : List Va) (l : List Sc) : ∀ x, yes lt row (l.foldl (fun e y => ⟨2, 0, vz, 11, [e, y]⟩) x) = (yes lt row x && l.all (yes lt row)) := by
  induction l with
  | nil => intro x; simp
  | cons y l ih => intro x; rw [List.foldl_cons, ih, yes_and]; simp [Bool.and_assoc]
theorem yes_andS (row : List Va) (l : List Sc) : yes lt row (andS l) = l.all (yes lt row) := by
  cases l with
  | nil => simp [andS, yes, con, eval_const]
  | cons x l => simp [andS, yes_foldl]
theorem yes_conj (row : List Va) (a : Sc) : (conj a).all (yes lt row) = yes lt row a := by
  refine Sc.rec (motive_1 := fun a => (conj a).all (yes lt row) = yes lt row a) (motive_2 := fun l => (conjs l).all (yes lt row) = l.all (yes lt row)) ?_ ?_ ?_ a
  · intro k c v o l hl
    rw [conj]
    split
    · rename_i h
      rw [(eqb_iff _ _).1 h]
      simp [yes, con, eval_const]
    split
    · rename_i h
      obtain ⟨rfl, rfl, h2⟩ := h
      match l, h2 with
      | [x, y], _ => rw [hl, yes_and]; simp
    · simp
  · rfl
  · intro x l hx hl; simp [conjs, hx, hl]
theorem conj_size (a : Sc) : sizes (conj a) + (conj a).length ≤ size a + 1 := by
  refine Sc.rec (motive_1 := fun a => sizes (conj a) + (conj a).length ≤ size a + 1) (motive_2 := fun l => sizes (conjs l) + (conjs l).length ≤ sizes l + l.length) ?_ ?_ ?_ a
  · intro k c v o l hl
    rw [conj]
    split
    · simp [sizes]
    split
    · rename_i h
      obtain ⟨rfl, rfl, h2⟩ := h
      simp only [size]
      omega
    · simp [sizes]
  · simp [conjs, sizes]
  · intro x l hx hl; simp [conjs, sizes, sizes_append]; omega
theorem conj_ok (a : Sc) (h : okT a = true) : ∀ x ∈ conj a, okT x = true := by
  refine Sc.rec (motive_1 := fun a => okT a = true → ∀ x ∈ conj a, okT x = true) (motive_2 := fun l => okTs l = true → ∀ x ∈ conjs l, okT x = true) ?_ ?_ ?_ a h
  · intro k c v o l hl h
    rw [conj]
    split
    · intro x hx; cases hx
    split
    · simp only [okT, Bool.and_eq_true] at h; exact hl h.2
    · intro x hx; simp at hx; rw [hx]; exact h
  · intro _ x hx; cases hx
  · intro y l hy hl h x hx
    simp [okTs] at h
    simp [conjs] at hx
    rcases hx with hx | hx
    · exact hy h.1 x hx
    · exact hl h.2 x hx
theorem conjs_flat (l : List Sc) : sizes (l.flatMap conj) + (l.flatMap conj).length ≤ sizes l + l.length := by
  induction l with
  | nil => simp [sizes]
  | cons x l ih => simp [sizes, sizes_append]; have := conj_size x; simp at ih; omega
end
end Pu
namespace Pu
set_option linter.unusedSimpArgs false
/-! ### Texts -/
/-- Decimal digits. -/
def dig (n : Nat) : List UInt8 := if n < 10 then [UInt8.ofNat (48 + n)] else dig (n / 10) ++ [UInt8.ofNat (48 + n % 10)]
termination_by n
decreasing_by omega
def itoa (i : Int) : List UInt8 := if i < 0 then 45 :: dig (-i).toNat else dig i.toNat
def esc : List UInt8 → List UInt8
  | [] => []
  | c :: l => if c = 39 then 39 :: 39 :: esc l else c :: esc l
def fmtV (v : Va) : List UInt8 :=
  if v.f0 = 0 then itoa v.f1
  else if v.f0 = 1 then 39 :: (esc v.f2.data.toList ++ [39])
  else if v.f1 = 1 then [84, 82, 85, 69] else [70, 65, 76, 83, 69]
def sym (o : Int) : List UInt8 :=
  if o = 0 then [43] else if o = 1 then [45] else if o = 2 then [42] else if o = 3 then [45] else if o = 4 then [124, 124]
  else if o = 5 then [61] else if o = 6 then [60, 62] else if o = 7 then [60] else if o = 8 then [60, 61] else if o = 9 then [62] else if o = 10 then [62, 61]
  else if o = 11 then [65, 78, 68] else if o = 12 then [79, 82] else [78, 79, 84]
mutual
def text : Sc → List UInt8
  | ⟨k, c, v, o, l⟩ =>
    if k = 0 then fmtV v
    else if k = 1 then 35 :: itoa c
    else 40 :: (match texts l with
      | [x] => sym o ++ 32 :: (x ++ [41])
      | x :: y :: _ => x ++ 32 :: (sym o ++ 32 :: (y ++ [41]))
      | [] => [])
def texts : List Sc → List (List UInt8)
  | [] => []
  | x :: l => text x :: texts l
end
theorem text_const (v : Va) : text ⟨0, 0, v, 0, []⟩ = fmtV v := by simp [text]
theorem text_ref (c : Int) : text ⟨1, c, vz, 0, []⟩ = 35 :: itoa c := by simp [text]
theorem text_un (o : Int) (x : Sc) : text ⟨2, 0, vz, o, [x]⟩ = 40 :: (sym o ++ 32 :: (text x ++ [41])) := by simp [text, texts]
theorem text_bin (o : Int) (x y : Sc) : text ⟨2, 0, vz, o, [x, y]⟩ = 40 :: (text x ++ 32 :: (sym o ++ 32 :: (text y ++ [41]))) := by simp [text, texts]

def isd (c : UInt8) : Bool := 48 ≤ c && c ≤ 57
theorem isd_of (n : Nat) (h : n < 10) : isd (UInt8.ofNat (48 + n)) = true ∧ (UInt8.ofNat (48 + n)).toNat = 48 + n := by
  have : n = 0 ∨ n = 1 ∨ n = 2 ∨ n = 3 ∨ n = 4 ∨ n = 5 ∨ n = 6 ∨ n = 7 ∨ n = 8 ∨ n = 9 := by omega
  rcases this with rfl | rfl | rfl | rfl | rfl | rfl | rfl | rfl | rfl | rfl <;> decide
theorem dig_all (n : Nat) : (∀ c ∈ dig n, isd c = true) ∧ dig n ≠ [] := by
  induction n using Nat.strongRecOn with
  | _ n ih =>
    rw [dig]
    split
    · rename_i h; exact ⟨fun c hc => by rw [List.mem_singleton.1 hc]; exact (isd_of n h).1, by simp⟩
    · refine ⟨fun c hc => ?_, by simp⟩
      rcases List.mem_append.1 hc with hc | hc
      · exact (ih (n / 10) (by omega)).1 c hc
      · rw [List.mem_singleton.1 hc]; exact (isd_of _ (by omega)).1
def val (l : List UInt8) : Nat := l.foldl (fun a c => 10 * a + (c.toNat - 48)) 0
theorem val_dig (n : Nat) : val (dig n) = n := by
  induction n using Nat.strongRecOn with
  | _ n ih =>
    rw [dig]
    split
    · rename_i h; simp only [val, List.foldl_cons, List.foldl_nil]; rw [(isd_of n h).2]; omega
    · have := ih (n / 10) (by omega)
      unfold val at this ⊢
      rw [List.foldl_append, this]
      simp only [List.foldl_cons, List.foldl_nil]
      rw [(isd_of (n % 10) (by omega)).2]
      omega
/-- What may follow a text. -/
def dl (s : List UInt8) : Prop := s = [] ∨ (∃ r, s = 32 :: r) ∨ ∃ r, s = 41 :: r
theorem dl_sp (r : List UInt8) : dl (32 :: r) := .inr (.inl ⟨r, rfl⟩)
theorem dl_cl (r : List UInt8) : dl (41 :: r) := .inr (.inr ⟨r, rfl⟩)
theorem take_digits {l s : List UInt8} (h : ∀ c ∈ l, isd c = true) (hs : dl s) : (l ++ s).takeWhile isd = l ∧ (l ++ s).dropWhile isd = s := by
  induction l with
  | nil =>
    rcases hs with rfl | ⟨r, rfl⟩ | ⟨r, rfl⟩
    · exact ⟨rfl, rfl⟩
    · exact ⟨rfl, rfl⟩
    · exact ⟨rfl, rfl⟩
  | cons c l ih =>
    have := ih (fun d hd => h d (by simp [hd]))
    have hc := h c (by simp)
    constructor
    · simp [hc, this.1]
    · simp [hc, this.2]
theorem dig_inj {m n : Nat} {s t : List UInt8} (hs : dl s) (ht : dl t) (h : dig m ++ s = dig n ++ t) : m = n ∧ s = t := by
  have a := take_digits (dig_all m).1 hs
  have b := take_digits (dig_all n).1 ht
  rw [h] at a
  have e := a.1.symm.trans b.1
  exact ⟨by rw [← val_dig m, ← val_dig n, e], a.2.symm.trans b.2⟩
theorem dig_head (n : Nat) : ∃ c r, dig n = c :: r ∧ isd c = true := by
  obtain ⟨h, hn⟩ := dig_all n
  cases e : dig n with
  | nil => exact absurd e hn
  | cons c r => exact ⟨c, r, rfl, h c (by simp [e])⟩
theorem itoa_inj {m n : Int} {s t : List UInt8} (hs : dl s) (ht : dl t) (h : itoa m ++ s = itoa n ++ t) : m = n ∧ s = t := by
  unfold itoa at h
  split at h <;> split at h
  · rw [List.cons_append, List.cons_append] at h
    injection h with _ h
    have := dig_inj hs ht h
    exact ⟨by omega, this.2⟩
  · obtain ⟨c, r, e, hc⟩ := dig_head n.toNat
    rw [e, List.cons_append, List.cons_append] at h
    injection h with h _
    subst h; exact absurd hc (by decide)
  · obtain ⟨c, r, e, hc⟩ := dig_head m.toNat
    rw [e, List.cons_append, List.cons_append] at h
    injection h with h _
    subst h; exact absurd hc (by decide)
  · have := dig_inj hs ht h
    exact ⟨by omega, this.2⟩
theorem itoa_head (n : Int) : ∃ c r, itoa n = c :: r ∧ (c = 45 ∧ (∃ d q, r = d :: q ∧ isd d = true) ∨ isd c = true) := by
  unfold itoa
  split
  · obtain ⟨d, q, e, hd⟩ := dig_head (-n).toNat
    exact ⟨45, _, rfl, .inl ⟨rfl, d, q, e, hd⟩⟩
  · obtain ⟨d, q, e, hd⟩ := dig_head n.toNat
    exact ⟨d, q, e, .inr hd⟩
theorem esc_inj : ∀ {l m : List UInt8} {s t : List UInt8}, (∀ r, s ≠ 39 :: r) → (∀ r, t ≠ 39 :: r) → esc l ++ 39 :: s = esc m ++ 39 :: t → l = m ∧ s = t
  | [], [], s, t, _, _, h => by simp [esc] at h; exact ⟨rfl, h⟩
  | [], c :: m, s, t, hs, _, h => by
    simp only [esc] at h
    split at h
    · simp at h; exact absurd h (hs _)
    · rename_i hc; simp at h; exact absurd h.1.symm hc
  | c :: l, [], s, t, _, ht, h => by
    simp only [esc] at h
    split at h
    · simp at h; exact absurd h.symm (ht _)
    · rename_i hc; simp at h; exact absurd h.1 hc
  | c :: l, d :: m, s, t, hs, ht, h => by
    simp only [esc] at h
    split at h <;> split at h
    · rename_i e1 e2; simp at h; have := esc_inj hs ht h; exact ⟨by rw [e1, e2, this.1], this.2⟩
    · rename_i e1 e2; simp at h; exact absurd h.1.symm e2
    · rename_i e1 e2; simp at h; exact absurd h.1 e1
    · simp at h; have := esc_inj hs ht h.2; exact ⟨by rw [h.1, this.1], this.2⟩
theorem dl_no39 {s : List UInt8} (h : dl s) : ∀ r, s ≠ 39 :: r := by
  rcases h with rfl | ⟨r, rfl⟩ | ⟨r, rfl⟩ <;> intro q e <;> simp at e

/-- How a text begins: its first byte, and what follows a minus sign. -/
def cls (c : UInt8) : Nat := if c = 45 || isd c then 0 else if c = 39 then 1 else if c = 84 then 2 else if c = 70 then 3 else if c = 35 then 4 else if c = 40 then 5 else 6
def begins (n : Nat) (l : List UInt8) : Prop := ∃ c r, l = c :: r ∧ cls c = n ∧ (c = 45 → ∃ d q, r = d :: q ∧ isd d = true)
theorem begins_append {n : Nat} {l : List UInt8} (h : begins n l) (s : List UInt8) : begins n (l ++ s) := by
  obtain ⟨c, r, rfl, hc, hm⟩ := h
  refine ⟨c, r ++ s, rfl, hc, fun e => ?_⟩
  obtain ⟨d, q, rfl, hd⟩ := hm e
  exact ⟨d, q ++ s, rfl, hd⟩
theorem begins_eq {m n : Nat} {l : List UInt8} (h : begins m l) (k : begins n l) : m = n := by
  obtain ⟨c, r, rfl, hc, _⟩ := h
  obtain ⟨c', r', e, hc', _⟩ := k
  injection e with e _
  rw [← hc, ← hc', e]
theorem cls_isd {c : UInt8} (h : isd c = true) : cls c = 0 := by simp [cls, h]
theorem begins_itoa (n : Int) : begins 0 (itoa n) := by
  obtain ⟨c, r, e, h⟩ := itoa_head n
  rcases h with ⟨rfl, d, q, rfl, hd⟩ | h
  · exact ⟨45, _, e, by decide, fun _ => ⟨d, q, rfl, hd⟩⟩
  · exact ⟨c, r, e, cls_isd h, fun hc => by subst hc; exact absurd h (by decide)⟩
def kindOf (v : Va) : Nat := if v.f0 = 0 then 0 else if v.f0 = 1 then 1 else if v.f1 = 1 then 2 else 3
theorem begins_fmt (v : Va) : begins (kindOf v) (fmtV v) := by
  unfold kindOf fmtV
  by_cases h0 : v.f0 = 0
  · rw [if_pos h0, if_pos h0]; exact begins_itoa _
  by_cases h1 : v.f0 = 1
  · rw [if_neg h0, if_pos h1, if_neg h0, if_pos h1]; exact ⟨39, _, rfl, by decide, fun h => absurd h (by decide)⟩
  by_cases h2 : v.f1 = 1
  · rw [if_neg h0, if_neg h1, if_pos h2, if_neg h0, if_neg h1, if_pos h2]; exact ⟨84, _, rfl, by decide, fun h => absurd h (by decide)⟩
  · rw [if_neg h0, if_neg h1, if_neg h2, if_neg h0, if_neg h1, if_neg h2]; exact ⟨70, _, rfl, by decide, fun h => absurd h (by decide)⟩
def kindT (a : Sc) : Nat := if a.f0 = 0 then kindOf a.f2 else if a.f0 = 1 then 4 else 5
theorem begins_text {a : Sc} (h : okT a = true) : begins (kindT a) (text a) := by
  rcases okT_cases h with ⟨v, rfl, hv⟩ | ⟨c, rfl, _⟩ | ⟨o, x, rfl, _⟩ | ⟨o, x, y, rfl, _⟩
  · rw [text_const]; exact begins_fmt v
  · rw [text_ref]; exact ⟨35, _, rfl, (by decide : cls 35 = 4), fun h => absurd h (by decide)⟩
  · rw [text_un]; exact ⟨40, _, rfl, (by decide : cls 40 = 5), fun h => absurd h (by decide)⟩
  · rw [text_bin]; exact ⟨40, _, rfl, (by decide : cls 40 = 5), fun h => absurd h (by decide)⟩
theorem kindOf_lt (v : Va) : kindOf v < 4 := by unfold kindOf; split; decide; split; decide; split <;> decide
theorem fmt_inj {v u : Va} (hv : vvalid v = true) (hu : vvalid u = true) {s t : List UInt8} (hs : dl s) (ht : dl t) (h : fmtV v ++ s = fmtV u ++ t) : v = u ∧ s = t := by
  have ek : kindOf v = kindOf u := begins_eq (begins_append (begins_fmt v) s) (h ▸ begins_append (begins_fmt u) t)
  cases v with
  | mk k n x =>
  cases u with
  | mk k' n' x' =>
    unfold kindOf at ek
    unfold fmtV at h
    unfold vvalid at hv hu
    simp only at ek h hv hu
    by_cases c0 : k = 0 <;> by_cases d0 : k' = 0
    · subst c0; subst d0
      simp at hv hu h
      have := itoa_inj hs ht h
      exact ⟨by rw [this.1, hv, hu], this.2⟩
    · simp [c0, d0] at ek; split at ek <;> (try split at ek) <;> simp at ek
    · simp [c0, d0] at ek; split at ek <;> (try split at ek) <;> simp at ek
    by_cases c1 : k = 1 <;> by_cases d1 : k' = 1
    · subst c1; subst d1
      simp at hv hu h
      have := esc_inj (dl_no39 hs) (dl_no39 ht) h
      refine ⟨?_, this.2⟩
      rw [hv.1, hu.1]
      have hx : x = x' := by
        cases x with
        | mk d => cases x' with
          | mk d' => congr 1; exact Array.toList_inj.1 this.1
      rw [hx]
    · simp [c0, d0, c1, d1] at ek; split at ek <;> simp at ek
    · simp [c0, d0, c1, d1] at ek; split at ek <;> simp at ek
    simp only [if_neg c0, if_neg d0, if_neg c1, if_neg d1] at ek h hv hu
    split at hv
    · split at hu
      · rename_i e e'
        subst e; subst e'
        simp at hv hu
        rcases hv with ⟨hv | hv, hx⟩ <;> rcases hu with ⟨hu | hu, hx'⟩ <;> subst hv <;> subst hu <;> simp at ek h
        · exact ⟨by rw [hx, hx'], h⟩
        · exact ⟨by rw [hx, hx'], h⟩
      · cases hu
    · cases hv
theorem sym_inj {o p : Int} (h0 : 0 ≤ o) (h1 : o ≤ 12) (h3 : o ≠ 3) (g0 : 0 ≤ p) (g1 : p ≤ 12) (g3 : p ≠ 3) {s t : List UInt8} (h : sym o ++ 32 :: s = sym p ++ 32 :: t) : o = p ∧ s = t := by
  have ho : o = 0 ∨ o = 1 ∨ o = 2 ∨ o = 4 ∨ o = 5 ∨ o = 6 ∨ o = 7 ∨ o = 8 ∨ o = 9 ∨ o = 10 ∨ o = 11 ∨ o = 12 := by omega
  have hp : p = 0 ∨ p = 1 ∨ p = 2 ∨ p = 4 ∨ p = 5 ∨ p = 6 ∨ p = 7 ∨ p = 8 ∨ p = 9 ∨ p = 10 ∨ p = 11 ∨ p = 12 := by omega
  clear h0 h1 h3 g0 g1 g3
  rcases ho with rfl | rfl | rfl | rfl | rfl | rfl | rfl | rfl | rfl | rfl | rfl | rfl <;>
  rcases hp with rfl | rfl | rfl | rfl | rfl | rfl | rfl | rfl | rfl | rfl | rfl | rfl <;>
  first | (simp [sym] at h; exact ⟨rfl, h⟩) | (simp [sym] at h)
/-- The text tells the tree. -/
theorem text_inj (a : Sc) (ha : okT a = true) : ∀ (b : Sc), okT b = true → ∀ s t, dl s → dl t → text a ++ s = text b ++ t → a = b ∧ s = t := by
  refine okT_ind (P := fun a => ∀ (b : Sc), okT b = true → ∀ s t, dl s → dl t → text a ++ s = text b ++ t → a = b ∧ s = t) ?_ ?_ ?_ ?_ a ha
  · intro v hv b hb s t hs ht h
    have ek := begins_eq (begins_append (begins_text (okT_con_mk hv)) s) (by have := begins_append (begins_text hb) t; rw [← h] at this; exact this)
    rcases okT_cases hb with ⟨u, rfl, hu⟩ | ⟨c, rfl, _⟩ | ⟨o, x, rfl, _⟩ | ⟨o, x, y, rfl, _⟩
    · rw [text_const, text_const] at h
      have := fmt_inj hv hu hs ht h
      exact ⟨by rw [this.1], this.2⟩
    all_goals (have := kindOf_lt v; simp [kindT, con] at ek; omega)
  · intro c hc b hb s t hs ht h
    have ek := begins_eq (begins_append (begins_text (a := ⟨1, c, vz, 0, []⟩) (by rw [okT_ref]; simp [hc])) s) (by have := begins_append (begins_text hb) t; rw [← h] at this; exact this)
    rcases okT_cases hb with ⟨u, rfl, hu⟩ | ⟨c', rfl, _⟩ | ⟨o, x, rfl, _⟩ | ⟨o, x, y, rfl, _⟩
    · have := kindOf_lt u; simp [kindT] at ek; omega
    · rw [text_ref, text_ref] at h
      simp only [List.cons_append] at h
      injection h with _ h
      have := itoa_inj hs ht h
      exact ⟨by rw [this.1], this.2⟩
    all_goals (simp [kindT] at ek)
  · intro o x ho hx ih b hb s t hs ht h
    have ek := begins_eq (begins_append (begins_text (okT_un ho hx)) s) (by have := begins_append (begins_text hb) t; rw [← h] at this; exact this)
    rcases okT_cases hb with ⟨u, rfl, hu⟩ | ⟨c', rfl, _⟩ | ⟨o', x', rfl, ho', hx'⟩ | ⟨o', x', y', rfl, h0, h1, h3, hx', hy'⟩
    · have := kindOf_lt u; simp [kindT] at ek; omega
    · simp [kindT] at ek
    · rw [text_un, text_un] at h
      have e : o = o' := by
        rcases ho with rfl | rfl <;> rcases ho' with rfl | rfl <;> first | rfl | (simp [sym] at h)
      subst e
      simp only [List.cons_append, List.append_assoc, List.cons.injEq, true_and, List.append_cancel_left_eq] at h
      have := ih x' hx' _ _ (dl_cl _) (dl_cl _) h
      exact ⟨by rw [this.1], by have := this.2; simp at this; exact this⟩
    · exfalso
      rw [text_un, text_bin] at h
      simp only [List.cons_append, List.append_assoc, List.cons.injEq, true_and] at h
      obtain ⟨c, r, e, hc, hm⟩ := begins_text hx'
      rw [e] at h
      rcases ho with rfl | rfl
      · simp [sym] at h
        obtain ⟨d, q, rfl, hd⟩ := hm h.1.symm
        simp at h
        rw [← h.2.1] at hd
        exact absurd hd (by decide)
      · simp [sym] at h
        rw [← h.1] at hc
        have : kindT x' < 6 := by unfold kindT; have := kindOf_lt x'.f2; split <;> (try split) <;> omega
        rw [← hc] at this
        exact absurd this (by decide)
  · intro o x y h0 h1 h3 hx hy ihx ihy b hb s t hs ht h
    have ek := begins_eq (begins_append (begins_text (okT_bin h0 h1 h3 hx hy)) s) (by have := begins_append (begins_text hb) t; rw [← h] at this; exact this)
    rcases okT_cases hb with ⟨u, rfl, hu⟩ | ⟨c', rfl, _⟩ | ⟨o', x', rfl, ho', hx'⟩ | ⟨o', x', y', rfl, g0, g1, g3, hx', hy'⟩
    · have := kindOf_lt u; simp [kindT] at ek; omega
    · simp [kindT] at ek
    · exfalso
      rw [text_un, text_bin] at h
      simp only [List.cons_append, List.append_assoc, List.cons.injEq, true_and] at h
      obtain ⟨c, r, e, hc, hm⟩ := begins_text hx
      rw [e] at h
      rcases ho' with rfl | rfl
      · simp [sym] at h
        obtain ⟨d, q, rfl, hd⟩ := hm h.1
        simp at h
        rw [h.2.1] at hd
        exact absurd hd (by decide)
      · simp [sym] at h
        rw [h.1] at hc
        have : kindT x < 6 := by unfold kindT; have := kindOf_lt x.f2; split <;> (try split) <;> omega
        rw [← hc] at this
        exact absurd this (by decide)
    · rw [text_bin, text_bin] at h
      simp only [List.cons_append, List.append_assoc, List.cons.injEq, true_and] at h
      have r1 := ihx x' hx' _ _ (dl_sp _) (dl_sp _) h
      have r1b := r1.2
      simp only [List.cons.injEq, true_and] at r1b
      have r2 := sym_inj h0 h1 h3 g0 g1 g3 r1b
      have r3 := ihy y' hy' _ _ (dl_cl _) (dl_cl _) r2.2
      exact ⟨by rw [r1.1, r2.1, r3.1], by have := r3.2; simp at this; exact this⟩
theorem text_eq_iff {a b : Sc} (ha : okT a = true) (hb : okT b = true) : text a = text b ↔ a = b :=
  ⟨fun h => (text_inj a ha b hb [] [] (.inl rfl) (.inl rfl) (by simpa using h)).1, fun h => by rw [h]⟩
/-! ### Whole numbers of 64 bits -/
def inR (n : Int) : Prop := -9223372036854775808 ≤ n ∧ n ≤ 9223372036854775807
mutual
def scW : Sc → Prop
  | ⟨k, c, v, o, l⟩ => (inR k ∧ inR c ∧ inR v.f0 ∧ inR v.f1 ∧ inR o) ∧ scWs l
def scWs : List Sc → Prop
  | [] => True
  | x :: l => scW x ∧ scWs l
end
theorem scWs_mem {l : List Sc} (h : scWs l) {x : Sc} (hx : x ∈ l) : scW x := by
  induction l with
  | nil => cases hx
  | cons y l ih =>
    cases hx with
    | head => exact h.1
    | tail _ hx => exact ih h.2 hx
theorem scWs_of {l : List Sc} (h : ∀ x ∈ l, scW x) : scWs l := by
  induction l with
  | nil => trivial
  | cons y l ih => exact ⟨h y (by simp), ih fun x hx => h x (by simp [hx])⟩
theorem scW_kids {x : Sc} (h : scW x) {y : Sc} (hy : y ∈ x.f4) : scW y := by cases x; exact scWs_mem h.2 hy
theorem scW_top {x : Sc} (h : scW x) : inR x.f0 ∧ inR x.f1 ∧ inR x.f2.f0 ∧ inR x.f2.f1 ∧ inR x.f3 := by cases x; exact h.1
theorem scW_vrs (x : Sc) : scW x → vrs x := by
  refine Sc.rec (motive_1 := fun x => scW x → vrs x) (motive_2 := fun l => scWs l → vrss l) ?_ ?_ ?_ x
  · intro k c v o l hl h; exact ⟨h.1.2.2.2.1, hl h.2⟩
  · intro _; trivial
  · intro y l hy hl h; exact ⟨hy h.1, hl h.2⟩
end Pu
