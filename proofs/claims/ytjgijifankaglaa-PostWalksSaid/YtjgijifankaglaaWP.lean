/- The plain law of Walk: the numbers of several rising lists, least first, and in how many lists each is. -/
import Derived.Test.YtjgijifankaglaaPL
namespace Go.Proofs.Ytjgijifankaglaa
set_option linter.unusedVariables false
set_option linter.unusedSimpArgs false

abbrev LL := List (List Int)
def AUp (R : LL) : Prop := ∀ l ∈ R, Up l
/-- the union, as the document joins it -/
def UL (R : LL) : List Int := R.foldl (fun out l => joi true true true out l) []
def cntL (R : LL) (v : Int) : Nat := R.countP fun l => decide (v ∈ l)
def MM (R : LL) : List (Int × Int) := (UL R).map fun v => (v, ((cntL R v : Nat) : Int))
theorem ul_acc : ∀ (R : LL) (a : List Int), Up a → AUp R → Up (R.foldl (fun out l => joi true true true out l) a) ∧ ∀ x, x ∈ R.foldl (fun out l => joi true true true out l) a ↔ x ∈ a ∨ ∃ l ∈ R, x ∈ l
  | [], a, ha, _ => ⟨ha, fun x => by simp⟩
  | c :: R, a, ha, hR => by
    have hc := hR c (List.mem_cons_self ..)
    have ho := orR_spec c a ha
    have e : joi true true true a c = orR a c := by rw [joi_or, up_rise ha, up_rise hc]; rfl
    have ih := ul_acc R (joi true true true a c) (by rw [e]; exact ho.1) (fun l hl => hR l (List.mem_cons_of_mem _ hl))
    refine ⟨ih.1, fun x => ?_⟩
    rw [List.foldl_cons, ih.2, e, ho.2]
    simp only [List.mem_cons, exists_eq_or_imp]
    constructor
    · rintro ((h | h) | h)
      · exact .inl h
      · exact .inr (.inl h)
      · exact .inr (.inr h)
    · rintro (h | h | h)
      · exact .inl (.inl h)
      · exact .inl (.inr h)
      · exact .inr h
theorem ul_up {R : LL} (h : AUp R) : Up (UL R) := (ul_acc R [] List.Pairwise.nil h).1
theorem ul_mem {R : LL} (h : AUp R) (x : Int) : x ∈ UL R ↔ ∃ l ∈ R, x ∈ l := by
  have := (ul_acc R [] List.Pairwise.nil h).2 x
  unfold UL
  simpa using this
theorem UL_snoc (R : LL) (l : List Int) : UL (R ++ [l]) = joi true true true (UL R) l := by unfold UL; rw [List.foldl_append]; rfl
/-- the least head so far -/
def sc (acc : Option Int) (l : List Int) : Option Int :=
  match l, acc with
  | [], a => a
  | x :: _, none => some x
  | x :: _, some y => if x < y then some x else some y
def lst (R : LL) : Option Int := R.foldl sc none
theorem lst_snoc (R : LL) (l : List Int) : lst (R ++ [l]) = sc (lst R) l := by unfold lst; rw [List.foldl_append]; rfl
theorem lst_acc : ∀ (R : LL) (acc : Option Int), (R.foldl sc acc = none ↔ acc = none ∧ ∀ l ∈ R, l = []) ∧
    ∀ m, R.foldl sc acc = some m → (acc = some m ∨ ∃ l ∈ R, l.head? = some m) ∧ (∀ y, acc = some y → m ≤ y) ∧ ∀ l ∈ R, ∀ x, l.head? = some x → m ≤ x
  | [], acc => ⟨by simp, fun m h => ⟨.inl h, fun y hy => by rw [List.foldl_nil] at h; rw [h] at hy; cases hy; omega, fun l hl => nomatch hl⟩⟩
  | c :: R, acc => by
    have ih := lst_acc R (sc acc c)
    rw [List.foldl_cons]
    cases c with
    | nil =>
      have e : sc acc [] = acc := rfl
      rw [e] at ih ⊢
      refine ⟨by rw [ih.1]; simp, fun m h => ?_⟩
      obtain ⟨h1, h2, h3⟩ := ih.2 m h
      refine ⟨?_, h2, fun l hl x hx => ?_⟩
      · rcases h1 with h1 | ⟨l, hl, hm⟩
        · exact .inl h1
        · exact .inr ⟨l, List.mem_cons_of_mem _ hl, hm⟩
      · rcases List.mem_cons.1 hl with rfl | hl
        · cases hx
        · exact h3 l hl x hx
    | cons z t =>
      have e : ∃ y, sc acc (z :: t) = some y ∧ y ≤ z ∧ (∀ q, acc = some q → y ≤ q) ∧ (acc = some y ∨ y = z) := by
        cases acc with
        | none => exact ⟨z, rfl, Int.le_refl _, (fun q h => nomatch h), .inr rfl⟩
        | some q =>
          by_cases hq : z < q
          · exact ⟨z, by show (if z < q then some z else some q) = _; rw [if_pos hq], Int.le_refl _, fun q' h => by cases h; omega, .inr rfl⟩
          · exact ⟨q, by show (if z < q then some z else some q) = _; rw [if_neg hq], by omega, fun q' h => by cases h; omega, .inl rfl⟩
      obtain ⟨y, e1, e2, e3, e4⟩ := e
      rw [e1] at ih ⊢
      refine ⟨?_, fun m h => ?_⟩
      · rw [ih.1]
        constructor
        · rintro ⟨h, _⟩; cases h
        · rintro ⟨_, h⟩; have := h (z :: t) (List.mem_cons_self ..); cases this
      · obtain ⟨h1, h2, h3⟩ := ih.2 m h
        have hy := h2 y rfl
        refine ⟨?_, fun q hq => Int.le_trans hy (e3 q hq), fun l hl x hx => ?_⟩
        · rcases h1 with h1 | ⟨l, hl, hm⟩
          · cases h1
            rcases e4 with e4 | e4
            · exact .inl e4
            · exact .inr ⟨z :: t, List.mem_cons_self .., by rw [e4]; rfl⟩
          · exact .inr ⟨l, List.mem_cons_of_mem _ hl, hm⟩
        · rcases List.mem_cons.1 hl with rfl | hl
          · cases hx; omega
          · exact h3 l hl x hx
theorem lst_none {R : LL} (h : lst R = none) : ∀ l ∈ R, l = [] := ((lst_acc R none).1.1 h).2
theorem lst_some {R : LL} {m : Int} (h : lst R = some m) : (∃ l ∈ R, l.head? = some m) ∧ ∀ l ∈ R, ∀ x, l.head? = some x → m ≤ x := by
  obtain ⟨h1, _, h3⟩ := (lst_acc R none).2 m h
  exact ⟨h1.resolve_left (fun h => nomatch h), h3⟩
/-- a list behind its head, if this is m -/
def adv1 (m : Int) (l : List Int) : List Int := if l.head? = some m then l.tail else l
def cn (m : Int) (R : LL) : Nat := R.countP fun l => decide (l.head? = some m)
theorem mem_head {l : List Int} {m : Int} (hu : Up l) (hm : ∀ x, l.head? = some x → m ≤ x) : (m ∈ l ↔ l.head? = some m) ∧ ∀ x, x ∈ l ↔ (x = m ∧ l.head? = some m) ∨ (x ≠ m ∧ x ∈ adv1 m l) := by
  cases l with
  | nil => simp [adv1]
  | cons z t =>
    have hz := hm z rfl
    have ht := (List.pairwise_cons.1 hu).1
    by_cases h : z = m
    · subst h
      refine ⟨by simp, fun x => ?_⟩
      simp only [adv1, List.head?_cons, if_true, List.tail_cons, List.mem_cons, and_true]
      constructor
      · rintro (h | h)
        · exact .inl h
        · exact .inr ⟨by have := ht x h; omega, h⟩
      · rintro (h | h)
        · exact .inl h
        · exact .inr h.2
    · have hne : ¬ (some z = some m) := fun e => h (Option.some.inj e)
      have hnm : m ∉ z :: t := by
        intro hmem
        rcases List.mem_cons.1 hmem with h1 | h1
        · exact h h1.symm
        · have := ht m h1; omega
      refine ⟨by simp only [List.head?_cons]; exact ⟨fun h' => absurd h' hnm, fun h' => absurd h' hne⟩, fun x => ?_⟩
      simp only [adv1, List.head?_cons, hne, if_false, and_false, false_or]
      constructor
      · intro hx
        exact ⟨fun e => hnm (e ▸ hx), hx⟩
      · exact fun hx => hx.2
theorem adv1_up {l : List Int} (m : Int) (h : Up l) : Up (adv1 m l) := by
  unfold adv1
  split
  · cases l with
    | nil => exact h
    | cons z t => exact (List.pairwise_cons.1 h).2
  · exact h
theorem MM_end {R : LL} (hR : AUp R) (h : lst R = none) : MM R = [] := by
  have : UL R = [] := by
    cases hu : UL R with
    | nil => rfl
    | cons x t =>
      have := (ul_mem hR x).1 (by rw [hu]; exact List.mem_cons_self ..)
      obtain ⟨l, hl, hx⟩ := this
      rw [lst_none h l hl] at hx
      cases hx
  unfold MM; rw [this]; rfl
theorem MM_step {R : LL} {m : Int} (hR : AUp R) (h : lst R = some m) : MM R = (m, ((cn m R : Nat) : Int)) :: MM (R.map (adv1 m)) ∧ AUp (R.map (adv1 m)) := by
  obtain ⟨⟨l0, hl0, hm0⟩, hmin⟩ := lst_some h
  have hA : AUp (R.map (adv1 m)) := by
    intro l hl
    obtain ⟨l', hl', rfl⟩ := List.mem_map.1 hl
    exact adv1_up m (hR l' hl')
  have hh := fun l (hl : l ∈ R) => mem_head (hR l hl) (hmin l hl)
  have hge : ∀ l ∈ R, ∀ x ∈ l, m ≤ x := by
    intro l hl x hx
    cases l with
    | nil => cases hx
    | cons z t =>
      have hz := hmin _ hl z rfl
      rcases List.mem_cons.1 hx with rfl | hx
      · exact hz
      · have := (List.pairwise_cons.1 (hR _ hl)).1 x hx; omega
  have hadv : ∀ l ∈ R, ∀ x, x ∈ adv1 m l → m < x ∧ x ∈ l := by
    intro l hl x hx
    cases l with
    | nil => simp [adv1] at hx
    | cons z t =>
      have ht := (List.pairwise_cons.1 (hR _ hl)).1
      by_cases hz : z = m
      · subst hz
        simp only [adv1, List.head?_cons, if_true, List.tail_cons] at hx
        exact ⟨ht x hx, List.mem_cons_of_mem _ hx⟩
      · have hne : ¬ (some z = some m) := fun e => hz (Option.some.inj e)
        simp only [adv1, List.head?_cons, hne, if_false] at hx
        have h1 := hge _ hl x hx
        have h2 := hge _ hl z (List.mem_cons_self ..)
        refine ⟨?_, hx⟩
        rcases List.mem_cons.1 hx with rfl | hx
        · omega
        · have := ht x hx; omega
  have hU : UL R = m :: UL (R.map (adv1 m)) := by
    refine up_ext (ul_up hR) (List.Pairwise.cons (fun x hx => ?_) (ul_up hA)) (fun x => ?_)
    · obtain ⟨l', hl', hx'⟩ := (ul_mem hA x).1 hx
      obtain ⟨l, hl, rfl⟩ := List.mem_map.1 hl'
      exact (hadv l hl x hx').1
    · rw [ul_mem hR, List.mem_cons, ul_mem hA]
      constructor
      · rintro ⟨l, hl, hx⟩
        rcases ((hh l hl).2 x).1 hx with ⟨h1, _⟩ | ⟨_, h1⟩
        · exact .inl h1
        · exact .inr ⟨_, List.mem_map.2 ⟨l, hl, rfl⟩, h1⟩
      · rintro (rfl | ⟨l', hl', hx⟩)
        · exact ⟨l0, hl0, ((hh l0 hl0).1).2 hm0⟩
        · obtain ⟨l, hl, rfl⟩ := List.mem_map.1 hl'
          exact ⟨l, hl, (hadv l hl x hx).2⟩
  refine ⟨?_, hA⟩
  unfold MM
  rw [hU, List.map_cons]
  have e1 : cntL R m = cn m R := by
    unfold cntL cn
    refine List.countP_congr fun l hl => ?_
    simp only [decide_eq_true_eq]
    exact (hh l hl).1
  rw [e1]
  congr 1
  refine List.map_congr_left fun v hv => ?_
  have hvm : v ≠ m := by
    obtain ⟨l', hl', hx'⟩ := (ul_mem hA v).1 hv
    obtain ⟨l, hl, rfl⟩ := List.mem_map.1 hl'
    have := (hadv l hl v hx').1
    omega
  have e2 : cntL R v = cntL (R.map (adv1 m)) v := by
    unfold cntL
    rw [List.countP_map]
    refine List.countP_congr fun l hl => ?_
    simp only [Function.comp, decide_eq_true_eq]
    constructor
    · intro hx
      rcases ((hh l hl).2 v).1 hx with ⟨h1, _⟩ | ⟨_, h1⟩
      · exact absurd h1 hvm
      · exact h1
    · intro hx
      exact (hadv l hl v hx).2
  rw [e2]
end Go.Proofs.Ytjgijifankaglaa
