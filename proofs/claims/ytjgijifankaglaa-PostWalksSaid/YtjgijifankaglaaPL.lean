/- Rising lists of numbers: the plain law of package post. -/
import Derived.WalkKit
namespace Go.Proofs.Ytjgijifankaglaa
set_option linter.unusedVariables false
set_option linter.unusedSimpArgs false

abbrev Up (l : List Int) : Prop := l.Pairwise (· < ·)
def rise : List Int → Bool
  | a :: b :: l => decide (a < b) && rise (b :: l)
  | _ => true
theorem rise_up : ∀ {l : List Int}, rise l = true → Up l
  | [], _ => List.Pairwise.nil
  | [a], _ => by simp [Up]
  | a :: b :: l, h => by
    simp only [rise, Bool.and_eq_true, decide_eq_true_eq] at h
    have ih := rise_up h.2
    refine List.Pairwise.cons (fun x hx => ?_) ih
    rcases List.mem_cons.1 hx with rfl | hx
    · exact h.1
    · have := (List.pairwise_cons.1 ih).1 x hx; omega
theorem up_rise : ∀ {l : List Int}, Up l → rise l = true
  | [], _ => rfl
  | [a], _ => rfl
  | a :: b :: l, h => by
    have h1 := List.pairwise_cons.1 h
    simp only [rise, Bool.and_eq_true, decide_eq_true_eq]
    exact ⟨h1.1 b (by simp), up_rise h1.2⟩
theorem rise_iff {l : List Int} : rise l = true ↔ Up l := ⟨rise_up, up_rise⟩
theorem rise_ix : ∀ {l : List Int}, rise l = true ↔ ∀ i (h : i + 1 < l.length), l[i] < l[i + 1]
  | [] => by simp [rise]
  | [a] => by simp [rise]
  | a :: b :: l => by
    simp only [rise, Bool.and_eq_true, decide_eq_true_eq]
    rw [rise_ix]
    constructor
    · rintro ⟨h1, h2⟩ i hi
      cases i with
      | zero => simpa using h1
      | succ i => exact h2 i (by simpa using hi)
    · intro h
      refine ⟨by simpa using h 0 (by simp), fun i hi => ?_⟩
      exact h (i + 1) (by simpa using hi)
theorem up_ext : ∀ {l m : List Int}, Up l → Up m → (∀ x, x ∈ l ↔ x ∈ m) → l = m
  | [], [], _, _, _ => rfl
  | [], b :: m, _, _, h => by have := (h b).2 (by simp); simp at this
  | a :: l, [], _, _, h => by have := (h a).1 (by simp); simp at this
  | a :: l, b :: m, hl, hm, h => by
    have hl' := List.pairwise_cons.1 hl
    have hm' := List.pairwise_cons.1 hm
    have hab : a = b := by
      have h1 := (h a).1 (by simp)
      have h2 := (h b).2 (by simp)
      rcases List.mem_cons.1 h1 with h1 | h1
      · exact h1
      · rcases List.mem_cons.1 h2 with h2 | h2
        · exact h2.symm
        · have := hm'.1 a h1
          have := hl'.1 b h2
          omega
    subst hab
    congr 1
    refine up_ext hl'.2 hm'.2 (fun x => ⟨fun hx => ?_, fun hx => ?_⟩)
    · have h1 := (h x).1 (List.mem_cons_of_mem _ hx)
      rcases List.mem_cons.1 h1 with h1 | h1
      · have := hl'.1 x hx; omega
      · exact h1
    · have h1 := (h x).2 (List.mem_cons_of_mem _ hx)
      rcases List.mem_cons.1 h1 with h1 | h1
      · have := hm'.1 x hx; omega
      · exact h1

/-! ### two lists, gone along -/
def opt (b : Bool) (x : Int) : List Int := if b then [x] else []
def jn (o b t : Bool) : List Int → List Int → List Int
  | [], [] => []
  | [], y :: ys => opt t y ++ jn o b t [] ys
  | x :: xs, [] => opt o x ++ jn o b t xs []
  | x :: xs, y :: ys => if x < y then opt o x ++ jn o b t xs (y :: ys) else if y < x then opt t y ++ jn o b t (x :: xs) ys else opt b x ++ jn o b t xs ys
termination_by a c => a.length + c.length
theorem mem_opt {b : Bool} {x y : Int} : x ∈ opt b y ↔ b = true ∧ x = y := by cases b <;> simp [opt]
theorem jn_sub {o b t : Bool} {x : Int} : ∀ (a c : List Int), x ∈ jn o b t a c → x ∈ a ∨ x ∈ c := by
  intro a c
  induction a, c using jn.induct with
  | case1 => intro h; rw [jn] at h; simp at h
  | case2 y ys ih =>
    intro h; rw [jn, List.mem_append, mem_opt] at h
    rcases h with h | h
    · exact .inr (by simp [h.2])
    · rcases ih h with h | h
      · simp at h
      · exact .inr (List.mem_cons_of_mem _ h)
  | case3 z xs ih =>
    intro h; rw [jn, List.mem_append, mem_opt] at h
    rcases h with h | h
    · exact .inl (by simp [h.2])
    · rcases ih h with h | h
      · exact .inl (List.mem_cons_of_mem _ h)
      · simp at h
  | case4 z xs y ys hxy ih =>
    intro h; rw [jn, if_pos hxy, List.mem_append, mem_opt] at h
    rcases h with h | h
    · exact .inl (by simp [h.2])
    · rcases ih h with h | h
      · exact .inl (List.mem_cons_of_mem _ h)
      · exact .inr h
  | case5 z xs y ys hxy hyx ih =>
    intro h; rw [jn, if_neg hxy, if_pos hyx, List.mem_append, mem_opt] at h
    rcases h with h | h
    · exact .inr (by simp [h.2])
    · rcases ih h with h | h
      · exact .inl h
      · exact .inr (List.mem_cons_of_mem _ h)
  | case6 z xs y ys hxy hyx ih =>
    intro h; rw [jn, if_neg hxy, if_neg hyx, List.mem_append, mem_opt] at h
    rcases h with h | h
    · exact .inl (by simp [h.2])
    · rcases ih h with h | h
      · exact .inl (List.mem_cons_of_mem _ h)
      · exact .inr (List.mem_cons_of_mem _ h)
theorem up_opt_append {b : Bool} {x : Int} {l : List Int} (h : Up l) (hx : ∀ y ∈ l, x < y) : Up (opt b x ++ l) := by
  cases b
  · simpa [opt] using h
  · simp only [opt, if_true, List.singleton_append]; exact List.Pairwise.cons hx h
theorem jn_up {o b t : Bool} : ∀ (a c : List Int), Up a → Up c → Up (jn o b t a c) := by
  intro a c
  induction a, c using jn.induct with
  | case1 => intro _ _; rw [jn]; exact List.Pairwise.nil
  | case2 y ys ih =>
    intro ha hc; rw [jn]
    have hc' := List.pairwise_cons.1 hc
    refine up_opt_append (ih ha hc'.2) (fun z hz => ?_)
    rcases jn_sub _ _ hz with h | h
    · simp at h
    · exact hc'.1 z h
  | case3 x xs ih =>
    intro ha hc; rw [jn]
    have ha' := List.pairwise_cons.1 ha
    refine up_opt_append (ih ha'.2 hc) (fun z hz => ?_)
    rcases jn_sub _ _ hz with h | h
    · exact ha'.1 z h
    · simp at h
  | case4 x xs y ys hxy ih =>
    intro ha hc; rw [jn, if_pos hxy]
    have ha' := List.pairwise_cons.1 ha
    have hc' := List.pairwise_cons.1 hc
    refine up_opt_append (ih ha'.2 hc) (fun z hz => ?_)
    rcases jn_sub _ _ hz with h | h
    · exact ha'.1 z h
    · rcases List.mem_cons.1 h with h | h
      · omega
      · have := hc'.1 z h; omega
  | case5 x xs y ys hxy hyx ih =>
    intro ha hc; rw [jn, if_neg hxy, if_pos hyx]
    have ha' := List.pairwise_cons.1 ha
    have hc' := List.pairwise_cons.1 hc
    refine up_opt_append (ih ha hc'.2) (fun z hz => ?_)
    rcases jn_sub _ _ hz with h | h
    · rcases List.mem_cons.1 h with h | h
      · omega
      · have := ha'.1 z h; omega
    · exact hc'.1 z h
  | case6 x xs y ys hxy hyx ih =>
    intro ha hc; rw [jn, if_neg hxy, if_neg hyx]
    have ha' := List.pairwise_cons.1 ha
    have hc' := List.pairwise_cons.1 hc
    refine up_opt_append (ih ha'.2 hc'.2) (fun z hz => ?_)
    rcases jn_sub _ _ hz with h | h
    · exact ha'.1 z h
    · have := hc'.1 z h; omega
theorem jn_mem {o b t : Bool} {z : Int} : ∀ (a c : List Int), Up a → Up c → (z ∈ jn o b t a c ↔ (o = true ∧ z ∈ a ∧ z ∉ c) ∨ (b = true ∧ z ∈ a ∧ z ∈ c) ∨ (t = true ∧ z ∉ a ∧ z ∈ c)) := by
  intro a c
  induction a, c using jn.induct with
  | case1 => intro _ _; rw [jn]; simp
  | case2 y ys ih =>
    intro ha hc
    have hc' := List.pairwise_cons.1 hc
    rw [jn, List.mem_append, mem_opt, ih ha hc'.2]
    simp only [List.not_mem_nil, List.mem_cons]
    cases t <;> simp
  | case3 x xs ih =>
    intro ha hc
    have ha' := List.pairwise_cons.1 ha
    rw [jn, List.mem_append, mem_opt, ih ha'.2 hc]
    simp only [List.not_mem_nil, List.mem_cons]
    cases o <;> simp
  | case4 x xs y ys hxy ih =>
    intro ha hc
    have ha' := List.pairwise_cons.1 ha
    have hc' := List.pairwise_cons.1 hc
    have hx : x ∉ xs := fun h => by have := ha'.1 x h; omega
    have hxc : x ∉ y :: ys := fun h => by
      rcases List.mem_cons.1 h with h | h
      · omega
      · have := hc'.1 x h; omega
    rw [jn, if_pos hxy, List.mem_append, mem_opt, ih ha'.2 hc]
    by_cases hz : z = x
    · subst hz
      have hm : z ∈ z :: xs := by simp
      simp only [hx, hxc, hm, not_false_eq_true, not_true_eq_false, and_true, and_false, false_and, or_false, true_and]
    · have hm : z ∈ x :: xs ↔ z ∈ xs := by simp [hz]
      simp only [hz, hm, and_false, false_or]
  | case5 x xs y ys hxy hyx ih =>
    intro ha hc
    have ha' := List.pairwise_cons.1 ha
    have hc' := List.pairwise_cons.1 hc
    have hy : y ∉ ys := fun h => by have := hc'.1 y h; omega
    have hya : y ∉ x :: xs := fun h => by
      rcases List.mem_cons.1 h with h | h
      · omega
      · have := ha'.1 y h; omega
    rw [jn, if_neg hxy, if_pos hyx, List.mem_append, mem_opt, ih ha hc'.2]
    by_cases hz : z = y
    · subst hz
      have hm : z ∈ z :: ys := by simp
      simp only [hy, hya, hm, not_false_eq_true, not_true_eq_false, and_true, and_false, false_and, or_false, false_or, true_and]
    · have hm : z ∈ y :: ys ↔ z ∈ ys := by simp [hz]
      simp only [hz, hm, and_false, false_or]
  | case6 x xs y ys hxy hyx ih =>
    intro ha hc
    have ha' := List.pairwise_cons.1 ha
    have hc' := List.pairwise_cons.1 hc
    have hxy' : x = y := by omega
    subst hxy'
    have hx : x ∉ xs := fun h => by have := ha'.1 x h; omega
    have hy : x ∉ ys := fun h => by have := hc'.1 x h; omega
    rw [jn, if_neg hxy, if_neg hyx, List.mem_append, mem_opt, ih ha'.2 hc'.2]
    by_cases hz : z = x
    · subst hz
      have hm : z ∈ z :: xs := by simp
      have hm' : z ∈ z :: ys := by simp
      simp only [hx, hy, hm, hm', not_false_eq_true, not_true_eq_false, and_true, and_false, false_and, or_false, false_or, true_and]
    · have hm : z ∈ x :: xs ↔ z ∈ xs := by simp [hz]
      have hm' : z ∈ x :: ys ↔ z ∈ ys := by simp [hz]
      simp only [hz, hm, hm', and_false, false_or]
/-- what And, Or, Not answer -/
def joi (o b t : Bool) (a c : List Int) : List Int := if rise a && rise c then jn o b t a c else []

/-! ### with a number, without a number -/
def low (l : List Int) (n : Int) : Nat := (l.takeWhile (· < n)).length
def ins (l : List Int) (n : Int) : List Int := l.take (low l n) ++ n :: l.drop (low l n)
theorem low_le (l : List Int) (n : Int) : low l n ≤ l.length := by
  unfold low
  induction l with
  | nil => simp
  | cons a l ih => by_cases h : a < n <;> simp [h]; exact ih
theorem low_take (l : List Int) (n : Int) : l.take (low l n) = l.takeWhile (· < n) := by
  unfold low
  induction l with
  | nil => rfl
  | cons a l ih =>
    by_cases h : a < n
    · simp [h, ih]
    · simp [h]
theorem low_lt {l : List Int} {n x : Int} (h : x ∈ l.take (low l n)) : x < n := by
  rw [low_take] at h
  induction l with
  | nil => simp at h
  | cons a l ih =>
    by_cases ha : a < n
    · simp [ha] at h
      rcases h with rfl | h
      · exact ha
      · exact ih h
    · simp [ha] at h
theorem low_ge {l : List Int} {n x : Int} (hl : Up l) (h : x ∈ l.drop (low l n)) : n ≤ x := by
  unfold low at h
  induction l with
  | nil => simp at h
  | cons a l ih =>
    have hl' := List.pairwise_cons.1 hl
    by_cases ha : a < n
    · simp [ha] at h
      exact ih hl'.2 h
    · simp [ha] at h
      rcases h with rfl | h
      · omega
      · have := hl'.1 x h; omega
theorem ins_mem {l : List Int} {n x : Int} : x ∈ ins l n ↔ x = n ∨ x ∈ l := by
  unfold ins
  have h : x ∈ l ↔ x ∈ l.take (low l n) ∨ x ∈ l.drop (low l n) := by
    rw [← List.mem_append, List.take_append_drop]
  rw [h, List.mem_append, List.mem_cons]
  constructor
  · rintro (h | h | h)
    · exact .inr (.inl h)
    · exact .inl h
    · exact .inr (.inr h)
  · rintro (h | h | h)
    · exact .inr (.inl h)
    · exact .inl h
    · exact .inr (.inr h)
theorem ins_up {l : List Int} {n : Int} (hl : Up l) (hn : n ∉ l) : Up (ins l n) := by
  unfold ins
  have h1 : Up (l.take (low l n)) := hl.sublist (List.take_sublist _ _)
  have h2 : Up (l.drop (low l n)) := hl.sublist (List.drop_sublist _ _)
  have h3 : ∀ x ∈ l.drop (low l n), n < x := fun x hx => by
    have := low_ge hl hx
    rcases Int.lt_or_eq_of_le this with h | h
    · exact h
    · exact absurd (h ▸ List.mem_of_mem_drop hx) hn
  refine List.pairwise_append.2 ⟨h1, List.Pairwise.cons h3 h2, fun x hx y hy => ?_⟩
  have := low_lt hx
  rcases List.mem_cons.1 hy with h | h
  · omega
  · have := h3 y h; omega
def addS (l : List Int) (n : Int) : List Int × Bool := if rise l then (if n ∈ l then (l, false) else (ins l n, true)) else ([], false)
def takS (l : List Int) (n : Int) : List Int × Bool := if rise l then (l.filter (· ≠ n), decide (n ∈ l)) else ([], false)
def hasS (l : List Int) (n : Int) : Bool := rise l && decide (n ∈ l)
/-- the document's own Or -/
def orR (a c : List Int) : List Int := c.foldl (fun out x => (addS out x).1) a
theorem orR_spec : ∀ (c a : List Int), Up a → Up (orR a c) ∧ ∀ x, x ∈ orR a c ↔ x ∈ a ∨ x ∈ c
  | [], a, ha => ⟨ha, fun x => by simp [orR]⟩
  | y :: c, a, ha => by
    have hs : Up (addS a y).1 ∧ ∀ x, x ∈ (addS a y).1 ↔ x = y ∨ x ∈ a := by
      unfold addS
      rw [if_pos (up_rise ha)]
      by_cases hy : y ∈ a
      · rw [if_pos hy]
        refine ⟨ha, fun x => ⟨fun h => .inr h, fun h => ?_⟩⟩
        rcases h with rfl | h
        · exact hy
        · exact h
      · rw [if_neg hy]
        exact ⟨ins_up ha hy, fun x => ins_mem⟩
    have ih := orR_spec c (addS a y).1 hs.1
    refine ⟨ih.1, fun x => ?_⟩
    show x ∈ orR (addS a y).1 c ↔ _
    rw [ih.2, hs.2, List.mem_cons]
    constructor
    · rintro ((h | h) | h)
      · exact .inr (.inl h)
      · exact .inl h
      · exact .inr (.inr h)
    · rintro (h | h | h)
      · exact .inl (.inr h)
      · exact .inl (.inl h)
      · exact .inr h
theorem joi_or (a c : List Int) : joi true true true a c = if rise a && rise c then orR a c else [] := by
  unfold joi
  split
  · rename_i h
    simp only [Bool.and_eq_true] at h
    have ha := rise_up h.1
    have hc := rise_up h.2
    have ho := orR_spec c a ha
    refine up_ext (jn_up a c ha hc) ho.1 (fun x => ?_)
    rw [jn_mem a c ha hc, ho.2]
    by_cases h1 : x ∈ a <;> by_cases h2 : x ∈ c <;> simp [h1, h2]
  · rfl
theorem joi_and (a c : List Int) : joi false true false a c = if rise a && rise c then a.filter (fun x => decide (x ∈ c)) else [] := by
  unfold joi
  split
  · rename_i h
    simp only [Bool.and_eq_true] at h
    have ha := rise_up h.1
    have hc := rise_up h.2
    refine up_ext (jn_up a c ha hc) (ha.sublist List.filter_sublist) (fun x => ?_)
    rw [jn_mem a c ha hc, List.mem_filter]
    simp
  · rfl
theorem joi_not (a c : List Int) : joi true false false a c = if rise a && rise c then a.filter (fun x => !decide (x ∈ c)) else [] := by
  unfold joi
  split
  · rename_i h
    simp only [Bool.and_eq_true] at h
    have ha := rise_up h.1
    have hc := rise_up h.2
    refine up_ext (jn_up a c ha hc) (ha.sublist List.filter_sublist) (fun x => ?_)
    rw [jn_mem a c ha hc, List.mem_filter]
    simp
  · rfl
end Go.Proofs.Ytjgijifankaglaa
