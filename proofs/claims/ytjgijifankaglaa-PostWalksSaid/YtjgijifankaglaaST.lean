/- Regions that draw their order and hold operations that write: facts that hold until an operation that waits for their reader has been. -/
import Derived.Test.YtjgijifankaglaaSY
import Derived.OrdersHeld
namespace Go.Proofs.Ytjgijifankaglaa.SX
open Go Go.RowKit
set_option linter.unusedVariables false

section
variable {P : Program} {ops : Array Oper} {Q : Exit → Act → World → Prop}

def edge (ops : Array Oper) (j i : Nat) : Bool :=
  match ops[j]? with
  | some oj => oj.after.any fun e => Region.binds .any e && e.on == i
  | none => false
/-- j waits for i, by way of others. -/
def anc (ops : Array Oper) : Nat → Nat → Nat → Bool
  | 0, _, _ => false
  | k + 1, j, i => match ops[j]? with
    | some oj => oj.after.any fun e => Region.binds .any e && (e.on == i || anc ops k e.on i)
    | none => false
def Closed (ops : Array Oper) (L : Array Bool) : Prop :=
  ∀ j oj, ops[j]? = some oj → L.getD j false = true → ∀ e ∈ oj.after, Region.binds .any e = true → L.getD e.on false = true
theorem anc_listed {L : Array Bool} (hc : Closed ops L) {i : Nat} : ∀ {k j : Nat}, anc ops k j i = true → L.getD j false = true → L.getD i false = true
  | 0, _, h, _ => by simp [anc] at h
  | k + 1, j, h, hl => by
    simp only [anc] at h
    cases ho : ops[j]? with
    | none => simp [ho] at h
    | some oj =>
      simp only [ho] at h
      obtain ⟨e, he, h2⟩ := Array.any_eq_true'.1 h
      simp only [Bool.and_eq_true, Bool.or_eq_true, beq_iff_eq] at h2
      have h3 := hc j oj ho hl e he h2.1
      rcases h2.2 with h4 | h4
      · rw [h4] at h3; exact h3
      · exact anc_listed hc h4 h3
theorem anc_ready {L : Array Bool} (hc : Closed ops L) {i k j : Nat} (h : anc ops k j i = true) (hr : j ∈ Region.ready .any ops L) : L.getD i false = true := by
  cases k with
  | zero => simp [anc] at h
  | succ k =>
    obtain ⟨_, oj, ho, hall⟩ := mem_ready.1 hr
    simp only [anc, ho] at h
    obtain ⟨e, he, h2⟩ := Array.any_eq_true'.1 h
    simp only [Bool.and_eq_true, Bool.or_eq_true, beq_iff_eq] at h2
    have h3 := hall e he h2.1
    rcases h2.2 with h4 | h4
    · rw [h4] at h3; exact h3
    · exact anc_listed hc h4 h3
theorem Closed.set {L : Array Bool} (hc : Closed ops L) {j : Nat} (hr : j ∈ Region.ready .any ops L) : Closed ops (L.setIfInBounds j true) := by
  obtain ⟨_, oj, ho, hall⟩ := mem_ready.1 hr
  intro k ok hk hl e he hb
  by_cases hjk : j = k
  · subst hjk
    have : ok = oj := Option.some.inj (hk.symm.trans ho)
    subst this
    exact getD_set_true (hall e he hb)
  · rw [getD_set_ne false hjk] at hl
    exact getD_set_true (hc k ok hk hl e he hb)
theorem closed_start (n : Nat) : Closed ops (Array.replicate n false) := by
  intro j oj _ hl
  simp only [Array.getD_eq_getD_getElem?] at hl
  rcases Nat.lt_or_ge j n with h | h
  · simp [h] at hl
  · simp [h] at hl

/-- A fact: its reader, who waits for the reader, what it says. -/
structure Ft where
  rd : Nat
  aft : List Nat
  p : World → Prop
def SF (fs : List Ft) (L : Array Bool) (w : World) : Prop := ∀ x ∈ fs, (L.getD x.rd true = false ∨ ∀ e ∈ x.aft, L.getD e false = false) → x.p w
def okF (ops : Array Oper) (fs : List Ft) : Bool := fs.all fun x => x.aft.all fun e => anc ops ops.size e x.rd

def T (P : Program) (ops : Array Oper) (Q : Exit → Act → World → Prop) (fs : List Ft) : Nat → Array Bool → Act → World → Prop
  | 0, L, a, w => Region.ready .any ops L = [] ∧ Q .normal a w
  | k + 1, L, a, w => (Region.ready .any ops L = [] → Q .normal a w) ∧
    ∀ i ∈ Region.ready .any ops L, wpOp P ops Q i (fun a' w' => SF fs (L.setIfInBounds i true) w' ∧ T P ops Q fs k (L.setIfInBounds i true) a' w') a w

theorem any_of_T {fs : List Ft} : ∀ (k : Nat) (L : Array Bool) (a : Act) (w : World), T P ops Q fs k L a w → wpAny P .any ops Q k L a w
  | 0, _, _, _, h => h
  | k + 1, _, _, _, h => ⟨h.1, fun i hi => wpOp_mono (fun a' w' h' => any_of_T k _ a' w' h'.2) (h.2 i hi)⟩

theorem SF_set {fs : List Ft} {L : Array Bool} {w : World} {i : Nat} (hne : ∀ x ∈ fs, i ∉ x.aft) (h : SF fs L w) : SF fs (L.setIfInBounds i true) w := by
  intro x hx hc
  refine h x hx ?_
  rcases hc with hc | hc
  · left
    by_cases e : i = x.rd
    · subst e
      by_cases hs : x.rd < L.size
      · simp [Array.getD_eq_getD_getElem?, hs] at hc
      · rw [Array.setIfInBounds_eq_of_size_le (by omega)] at hc; exact hc
    · rwa [getD_set_ne true e] at hc
  · right
    intro e he
    have := hc e he
    rwa [getD_set_ne false (fun h' => hne x hx (by rw [h']; exact he))] at this

theorem getD_un {L : Array Bool} {i : Nat} (h : L.getD i true = false) : L.getD i false = false := by
  rcases Nat.lt_or_ge i L.size with h' | h'
  · simp [Array.getD_eq_getD_getElem?, h'] at h ⊢; exact h
  · simp [Array.getD_eq_getD_getElem?, h'] at h

/-- The worlds in which a reader that has not been may run. -/
def Sw (fs : List Ft) (i : Nat) (w : World) : Prop := ∃ L : Array Bool, L.getD i true = false ∧ SF fs L w

theorem T_first {fs : List Ft} (hok : okF ops fs = true) {i : Nat} {oi : Oper} {v : Value} (hi : ops[i]? = some oi) (hsel : ∀ (j : Nat) (o : Oper) cs b, ops[j]? = some o → o.op ≠ .select cs b)
    (hQ : ∀ c a w, Q (.panic c) (a.put oi.dst v) w → Q (.panic c) a w) (hne : ∀ x ∈ fs, i ∉ x.aft) :
    ∀ (k : Nat) (L : Array Bool) (a : Act) (w : World), Closed ops L →
      (∀ j oj, ops[j]? = some oj → j ≠ i → L.getD j true = false → (∀ e ∈ oj.after, Region.binds .any e = true → e.on ≠ i) → oi.apart ops oj = true) →
      i ∈ Region.ready .any ops L → YieldsIf P ops (Sw fs i) oi v a → SF fs L w →
      T P ops Q fs k (L.setIfInBounds i true) (a.put oi.dst v) w → T P ops Q fs (k + 1) L a w := by
  intro k
  induction k with
  | zero =>
    intro L a w hcl _ hr hy hS H
    have hun := (mem_ready.1 hr).1
    refine ⟨fun h => (by rw [h] at hr; cases hr), fun j hj => ?_⟩
    by_cases hji : j = i
    · subst hji; exact hy.wpOp hi ⟨L, hun, hS⟩ ⟨SF_set hne hS, H⟩
    · have := ready_mono hj hji
      rw [H.1] at this
      cases this
  | succ k ih =>
    intro L a w hcl hfree hr hy hS H
    have hun := (mem_ready.1 hr).1
    refine ⟨fun h => (by rw [h] at hr; cases hr), fun j hj => ?_⟩
    by_cases hji : j = i
    · subst hji; exact hy.wpOp hi ⟨L, hun, hS⟩ ⟨SF_set hne hS, H⟩
    · have h1 := H.2 j (ready_mono hj hji)
      obtain ⟨hjun, oj, hoj, hall⟩ := mem_ready.1 hj
      have hnot : ∀ e ∈ oj.after, Region.binds .any e = true → e.on ≠ i := fun e he hb heq => by
        have h1 := hall e he hb
        rw [heq, getD_un hun] at h1
        cases h1
      have h2 := wpOp_putIf hoj (hfree j oj hoj hji hjun hnot) (fun cs b => hsel i oi cs b hi) (fun cs b => hsel j oj cs b hoj) hQ hy h1
      have hfree' : ∀ k ok, ops[k]? = some ok → k ≠ i → (L.setIfInBounds j true).getD k true = false →
          (∀ e ∈ ok.after, Region.binds .any e = true → e.on ≠ i) → oi.apart ops ok = true := fun k ok hk hki hun' hno => by
        refine hfree k ok hk hki ?_ hno
        by_cases hjk : j = k
        · subst hjk; exact hjun
        · rw [getD_set_ne true hjk] at hun'; exact hun'
      refine wpOp_mono (fun a' w' h3 => ?_) h2
      have hSF : SF fs (L.setIfInBounds j true) w' := by
        intro x hx hc
        refine h3.2.1 x hx ?_
        by_cases hxi : x.rd = i
        · right
          intro e he
          have hanc := List.all_eq_true.1 (List.all_eq_true.1 hok x hx) e he
          have hei : i ≠ e := fun h' => hne x hx (by rw [h']; exact he)
          have hej : j ≠ e := fun h' => by
            have h5 := anc_ready hcl (by rw [← h', hxi] at hanc; exact hanc) hj
            rw [getD_un hun] at h5; cases h5
          rw [getD_set_ne false hej, getD_set_ne false hei]
          cases hl : L.getD e false with
          | false => rfl
          | true =>
            have h5 := anc_listed hcl hanc hl
            rw [hxi, getD_un hun] at h5; cases h5
        · rcases hc with hc | hc
          · left
            by_cases hjx : j = x.rd
            · rw [← hjx] at hc
              have hs : j < L.size := by
                rcases Nat.lt_or_ge j L.size with h | h
                · exact h
                · simp [Array.getD_eq_getD_getElem?, h] at hjun
              simp [Array.getD_eq_getD_getElem?, hs] at hc
            · rw [getD_set_ne true hjx] at hc ⊢
              rwa [getD_set_ne true (Ne.symm hxi)]
          · right
            intro e he
            have hei : i ≠ e := fun h' => hne x hx (by rw [h']; exact he)
            have := hc e he
            by_cases hej : j = e
            · rw [← hej] at this ⊢
              by_cases hs : j < L.size
              · simp [Array.getD_eq_getD_getElem?, hs] at this
              · simp [Array.getD_eq_getD_getElem?, hs]
            · rw [getD_set_ne false hej] at this ⊢
              rwa [getD_set_ne false hei]
      refine ⟨hSF, ih (L.setIfInBounds j true) a' w' (hcl.set hj) hfree' (ready_mono hr (Ne.symm hji)) h3.1 hSF ?_⟩
      rw [Array.setIfInBounds_comm _ _ hji]
      exact h3.2.2
end

/-! the moves, over frames that are functions -/
structure WT (P : Program) (ops : Array Oper) (Q : Exit → Act → World → Prop) (fs : List Ft) (k : Nat) (L : Array Bool) (n : Nat) (f : Fr) (w : World) : Prop where
  out : T P ops Q fs k L (mk n f) w
/-- One of several that may come up. -/
structure WO (P : Program) (ops : Array Oper) (Q : Exit → Act → World → Prop) (fs : List Ft) (k : Nat) (L : Array Bool) (i : Nat) (n : Nat) (f : Fr) (w : World) : Prop where
  out : wpOp P ops Q i (fun a' w' => SF fs (L.setIfInBounds i true) w' ∧ T P ops Q fs k (L.setIfInBounds i true) a' w') (mk n f) w
/-- No way out but the region's end. -/
def Nx (Q : Exit → Act → World → Prop) : Exit → Act → World → Prop
  | .normal, a, w => Q .normal a w
  | _, _, _ => False

section
variable {P : Program} {ops : Array Oper} {Q : Exit → Act → World → Prop} {fs : List Ft} {k n d i : Nat} {L : Array Bool} {f : Fr} {v : Value} {w w' : World} {o : Oper}

theorem t_region {id : Nat} {l : List Oper} {wd : World} (fs : List Ft) (hm : P.follows .mixedOrders = true) (hwd : wd = w.drew) (hSF : SF fs (Array.replicate l.length false) wd)
    (h : ∀ Q', (∀ f w, WE Q .normal n f w → Q' .normal (mk n f) w) → (∀ c a w, Q' (.panic c) a w → False) → SF fs (Array.replicate l.length false) wd → WT P l.toArray Q' fs l.length (Array.replicate l.length false) n f wd) : WC P (.region id l.toArray true) Q n f w := by
  subst hwd
  refine ⟨Code.wp_mono (Q := Nx Q) (fun e a w q => by cases e <;> first | exact q | exact q.elim) ?_⟩
  refine wp_region_any hm ?_
  have h1 := (h (Nx Q) (fun f w hh => hh.out) (fun c a w hh => hh) hSF).out
  exact any_of_T _ _ _ _ h1
theorem t_done (hr : Region.ready .any ops L = []) (h : Q .normal (mk n f) w) : WT P ops Q fs k L n f w :=
  ⟨by cases k with
    | zero => exact ⟨hr, h⟩
    | succ k => exact ⟨fun _ => h, by rw [hr]; simp⟩⟩
def closedB (ops : Array Oper) (L : Array Bool) : Bool :=
  (List.range ops.size).all fun j => !L.getD j false || match ops[j]? with
    | some oj => oj.after.all fun e => !Region.binds .any e || L.getD e.on false
    | none => true
theorem closed_of (h : closedB ops L = true) : Closed ops L := by
  intro j oj hoj hl e he hb
  have hj : j < ops.size := (Array.getElem?_eq_some_iff.1 hoj).1
  have := List.all_eq_true.1 h j (List.mem_range.2 hj)
  simp only [hl, hoj, Bool.not_true, Bool.false_or] at this
  have := Array.all_eq_true_iff_forall_mem.1 this e he
  simpa [hb] using this
def notAft (fs : List Ft) (i : Nat) : Bool := fs.all fun x => !x.aft.contains i
theorem notAft_spec (h : notAft fs i = true) : ∀ x ∈ fs, i ∉ x.aft := by
  intro x hx hm
  have := List.all_eq_true.1 h x hx
  simp [hm] at this
/-- all that a take asks of the region's text -/
def takeB (ops : Array Oper) (fs : List Ft) (L : Array Bool) (i : Nat) : Bool :=
  Region.noSelect ops && okF ops fs && closedB ops L && Region.free .any ops L i && (Region.ready .any ops L).contains i && notAft fs i
theorem t_take (hp : ∀ c a w, Q (.panic c) a w → False) (i : Nat) (o : Oper) (v : Value) (hi : ops[i]? = some o) (hB : takeB ops fs L i = true) (hy : YieldsIf P ops (Sw fs i) o v (mk n f)) (hS : SF fs L w)
    (h : SF fs (L.setIfInBounds i true) w → T P ops Q fs k (L.setIfInBounds i true) ((mk n f).put o.dst v) w) : WT P ops Q fs (k + 1) L n f w := by
  simp only [takeB, Bool.and_eq_true] at hB
  obtain ⟨⟨⟨⟨⟨h1, h2⟩, h3⟩, h4⟩, h5⟩, h6⟩ := hB
  refine ⟨T_first h2 hi (Region.noSelect_spec h1) (fun c a w hh => (hp c _ w hh).elim) (notAft_spec h6) k L _ w (closed_of h3) (Region.free_spec hi h4) (by simpa using h5) hy hS (h (SF_set (notAft_spec h6) hS))⟩
/-- Take a reader, or an operation that looks at no memory. -/
theorem t_k (hp : ∀ c a w, Q (.panic c) a w → False) (hS : SF fs L w) (i : Nat) {o : Oper} (v : Value) (hi : ops[i]? = some o) (hg : o.guard = none) (hd : o.dst = some d) (hk : Nat.blt d n = true) (hB : takeB ops fs L i = true)
    (hrun : ∀ w, Sw fs i w → (execOp (evn n f) o).run P w = .ok (.value v) w) (h : SF fs (L.setIfInBounds i true) w → WT P ops Q fs k (L.setIfInBounds i true) n (upd f d v) w) : WT P ops Q fs (k + 1) L n f w :=
  t_take hp i o v hi hB (.inl ⟨by simp [Region.wanted, hg], fun w hw => by rw [eval_eq]; exact hrun w hw⟩) hS (fun hs => by rw [hd, put_mk hk]; exact (h hs).out)
theorem t_kg (hp : ∀ c a w, Q (.panic c) a w → False) (hS : SF fs L w) (i : Nat) {o : Oper} (v : Value) {j e : Nat} {b : Bool} (hi : ops[i]? = some o) (hg : o.guard = some (j, b)) (hj : (ops[j]?).bind (·.dst) = some e) (he : Nat.blt e n = true) (hf : f e = .bool b) (hd : o.dst = some d) (hk : Nat.blt d n = true) (hB : takeB ops fs L i = true)
    (hrun : ∀ w, Sw fs i w → (execOp (evn n f) o).run P w = .ok (.value v) w) (h : SF fs (L.setIfInBounds i true) w → WT P ops Q fs k (L.setIfInBounds i true) n (upd f d v) w) : WT P ops Q fs (k + 1) L n f w :=
  t_take hp i o v hi hB (.inl ⟨by simp [Region.wanted, hg, yielded, hj, get?_mk he, hf], fun w hw => by rw [eval_eq]; exact hrun w hw⟩) hS (fun hs => by rw [hd, put_mk hk]; exact (h hs).out)
theorem t_v (hp : ∀ c a w, Q (.panic c) a w → False) (hS : SF fs L w) (i : Nat) {o : Oper} {s : Sem Value} (v : Value) (hi : ops[i]? = some o) (hg : Region.wanted o (yielded ops (mk n f).tmps) = true) (hd : o.dst = some d) (hk : Nat.blt d n = true) (hB : takeB ops fs L i = true)
    (hs : execOp (evn n f) o = (s >>= fun v => pure (Next.value v))) (hrun : ∀ w, Sw fs i w → s.run P w = .ok v w) (h : SF fs (L.setIfInBounds i true) w → WT P ops Q fs k (L.setIfInBounds i true) n (upd f d v) w) : WT P ops Q fs (k + 1) L n f w :=
  t_take hp i o v hi hB (.inl ⟨hg, fun w hw => by rw [eval_eq, hs]; exact run_val (hrun w hw)⟩) hS (fun hs => by rw [hd, put_mk hk]; exact (h hs).out)
theorem t_kw (hp : ∀ c a w, Q (.panic c) a w → False) (hS : SF fs L w) (i : Nat) {o : Oper} (v : Value) (hi : ops[i]? = some o) (hg : Region.wanted o (yielded ops (mk n f).tmps) = true) (hd : o.dst = some d) (hk : Nat.blt d n = true) (hB : takeB ops fs L i = true)
    (hrun : ∀ w, Sw fs i w → (execOp (evn n f) o).run P w = .ok (.value v) w) (h : SF fs (L.setIfInBounds i true) w → WT P ops Q fs k (L.setIfInBounds i true) n (upd f d v) w) : WT P ops Q fs (k + 1) L n f w :=
  t_take hp i o v hi hB (.inl ⟨hg, fun w hw => by rw [eval_eq]; exact hrun w hw⟩) hS (fun hs => by rw [hd, put_mk hk]; exact (h hs).out)
/-- Take an operation whose guard bars it. -/
theorem t_no (hp : ∀ c a w, Q (.panic c) a w → False) (hS : SF fs L w) (i : Nat) {o : Oper} {j e : Nat} {b : Bool} (hi : ops[i]? = some o) (hg : o.guard = some (j, b)) (hj : (ops[j]?).bind (·.dst) = some e) (he : Nat.blt e n = true) (hf : f e = .bool (!b) ∨ f e = undef) (hd : o.dst = some d) (hk : Nat.blt d n = true) (hB : takeB ops fs L i = true)
    (h : SF fs (L.setIfInBounds i true) w → WT P ops Q fs k (L.setIfInBounds i true) n (upd f d undef) w) : WT P ops Q fs (k + 1) L n f w :=
  t_take hp i o undef hi hB (.inr ⟨by rcases hf with hf | hf <;> cases b <;> simp [Region.wanted, hg, yielded, hj, get?_mk he, hf, undef], rfl⟩) hS (fun hs => by rw [hd, put_mk hk]; exact (h hs).out)
/-- The one that may come up: it writes. -/
theorem t_step (i : Nat) {o : Oper} (hr : Region.ready .any ops L = [i]) (hi : ops[i]? = some o) (hw : Region.wanted o (yielded ops (mk n f).tmps) = true)
    (h : o.wp P (mk n f) w (fun a' w' => SF fs (L.setIfInBounds i true) w' ∧ T P ops Q fs k (L.setIfInBounds i true) a' w') Q) : WT P ops Q fs (k + 1) L n f w := by
  refine ⟨⟨fun h0 => (by rw [hr] at h0; cases h0), fun j hj => ?_⟩⟩
  rw [hr] at hj
  obtain rfl : j = i := by simpa using hj
  unfold wpOp
  simp only [hi, hw, if_true]
  exact .inl h
theorem t_w (i : Nat) {o : Oper} {s : Sem Value} (hr : Region.ready .any ops L = [i]) (hi : ops[i]? = some o) (hg : Region.wanted o (yielded ops (mk n f).tmps) = true) (hd : o.dst = some d) (hk : Nat.blt d n = true) (hs : execOp (evn n f) o = (s >>= fun v => pure (Next.value v))) (hrun : s.run P w = .ok v w')
    (hS : SF fs (L.setIfInBounds i true) w') (h : SF fs (L.setIfInBounds i true) w' → WT P ops Q fs k (L.setIfInBounds i true) n (upd f d v) w') : WT P ops Q fs (k + 1) L n f w := by
  refine t_step i hr hi hg ?_
  unfold Oper.wp
  rw [eval_eq, hs, run_val hrun, Oper.upon_value, hd, put_mk hk]
  exact ⟨hS, (h hS).out⟩
theorem t_wn (i : Nat) {o : Oper} {s : Sem Value} (hr : Region.ready .any ops L = [i]) (hi : ops[i]? = some o) (hg : Region.wanted o (yielded ops (mk n f).tmps) = true) (hd : o.dst = none) (hs : execOp (evn n f) o = (s >>= fun v => pure (Next.value v))) (hrun : s.run P w = .ok v w')
    (hS : SF fs (L.setIfInBounds i true) w') (h : SF fs (L.setIfInBounds i true) w' → WT P ops Q fs k (L.setIfInBounds i true) n f w') : WT P ops Q fs (k + 1) L n f w := by
  refine t_step i hr hi hg ?_
  unfold Oper.wp
  rw [eval_eq, hs, run_val hrun, Oper.upon_value, hd]
  exact ⟨hS, (h hS).out⟩
theorem t_u (i : Nat) {o : Oper} {s : Sem Unit} (hr : Region.ready .any ops L = [i]) (hi : ops[i]? = some o) (hg : Region.wanted o (yielded ops (mk n f).tmps) = true) (hd : o.dst = none) (hs : execOp (evn n f) o = (s >>= fun _ => pure Next.skip)) (hrun : s.run P w = .ok () w')
    (hS : SF fs (L.setIfInBounds i true) w') (h : SF fs (L.setIfInBounds i true) w' → WT P ops Q fs k (L.setIfInBounds i true) n f w') : WT P ops Q fs (k + 1) L n f w := by
  refine t_step i hr hi hg ?_
  unfold Oper.wp
  rw [eval_eq, hs, run_unit hrun, Oper.upon_skip, hd]
  exact ⟨hS, (h hS).out⟩
theorem t_call (i : Nat) {o : Oper} {g : FuncId} {args : Array Value} (hr : Region.ready .any ops L = [i]) (hi : ops[i]? = some o) (hg : Region.wanted o (yielded ops (mk n f).tmps) = true) (hd : o.dst = some d) (hk : Nat.blt d n = true) (hrun : (execOp (evn n f) o).run P w = .ok (.enter g args) w)
    (h : Calls P g args w fun e w' => ∃ v, e = .returned v ∧ SF fs (L.setIfInBounds i true) w' ∧ (SF fs (L.setIfInBounds i true) w' → WT P ops Q fs k (L.setIfInBounds i true) n (upd f d v) w')) : WT P ops Q fs (k + 1) L n f w := by
  refine t_step i hr hi hg ?_
  unfold Oper.wp
  rw [eval_eq, hrun, Oper.upon_enter]
  refine h.mono ?_
  rintro e w' ⟨v, rfl, hS, h'⟩
  show SF fs _ w' ∧ T P ops Q fs k _ ((mk n f).put o.dst v) w'
  rw [hd, put_mk hk]
  exact ⟨hS, (h' hS).out⟩
theorem t_calln (i : Nat) {o : Oper} {g : FuncId} {args : Array Value} (hr : Region.ready .any ops L = [i]) (hi : ops[i]? = some o) (hg : Region.wanted o (yielded ops (mk n f).tmps) = true) (hd : o.dst = none) (hrun : (execOp (evn n f) o).run P w = .ok (.enter g args) w)
    (h : Calls P g args w fun e w' => ∃ v, e = .returned v ∧ SF fs (L.setIfInBounds i true) w' ∧ (SF fs (L.setIfInBounds i true) w' → WT P ops Q fs k (L.setIfInBounds i true) n f w')) : WT P ops Q fs (k + 1) L n f w := by
  refine t_step i hr hi hg ?_
  unfold Oper.wp
  rw [eval_eq, hrun, Oper.upon_enter]
  refine h.mono ?_
  rintro e w' ⟨v, rfl, hS, h'⟩
  show SF fs _ w' ∧ T P ops Q fs k _ ((mk n f).put o.dst v) w'
  rw [hd]
  exact ⟨hS, (h' hS).out⟩
/-- The one that may come up: its guard bars it. -/
theorem t_skip (i : Nat) {o : Oper} {j e : Nat} {b : Bool} (hr : Region.ready .any ops L = [i]) (hi : ops[i]? = some o) (hg : o.guard = some (j, b)) (hj : (ops[j]?).bind (·.dst) = some e) (he : Nat.blt e n = true) (hf : f e = .bool (!b) ∨ f e = undef) (hd : o.dst = some d) (hk : Nat.blt d n = true)
    (hS : SF fs (L.setIfInBounds i true) w) (h : SF fs (L.setIfInBounds i true) w → WT P ops Q fs k (L.setIfInBounds i true) n (upd f d undef) w) : WT P ops Q fs (k + 1) L n f w := by
  refine ⟨⟨fun h0 => (by rw [hr] at h0; cases h0), fun j' hj' => ?_⟩⟩
  rw [hr] at hj'
  obtain rfl : j' = i := by simpa using hj'
  unfold wpOp
  have hw : Region.wanted o (yielded ops (mk n f).tmps) = false := by rcases hf with hf | hf <;> cases b <;> simp [Region.wanted, hg, yielded, hj, get?_mk he, hf, undef]
  simp only [hi, hw, Bool.false_eq_true, if_false]
  rw [hd, put_mk hk]
  exact ⟨hS, (h hS).out⟩
theorem t_kstep (i : Nat) {o : Oper} (v : Value) (w' : World) (hr : Region.ready .any ops L = [i]) (hi : ops[i]? = some o) (hg : Region.wanted o (yielded ops (mk n f).tmps) = true) (hd : o.dst = some d) (hk : Nat.blt d n = true) (hrun : (execOp (evn n f) o).run P w = .ok (.value v) w')
    (hS : SF fs (L.setIfInBounds i true) w') (h : SF fs (L.setIfInBounds i true) w' → WT P ops Q fs k (L.setIfInBounds i true) n (upd f d v) w') : WT P ops Q fs (k + 1) L n f w := by
  refine t_step i hr hi hg ?_
  unfold Oper.wp
  rw [eval_eq, hrun, Oper.upon_value, hd, put_mk hk]
  exact ⟨hS, (h hS).out⟩
theorem o_step (i : Nat) {o : Oper} (hi : ops[i]? = some o) (hw : Region.wanted o (yielded ops (mk n f).tmps) = true)
    (h : o.wp P (mk n f) w (fun a' w' => SF fs (L.setIfInBounds i true) w' ∧ T P ops Q fs k (L.setIfInBounds i true) a' w') Q) : WO P ops Q fs k L i n f w := by
  refine ⟨?_⟩
  unfold wpOp
  simp only [hi, hw, if_true]
  exact .inl h
theorem o_w (i : Nat) {o : Oper} {s : Sem Value} (hi : ops[i]? = some o) (hg : Region.wanted o (yielded ops (mk n f).tmps) = true) (hd : o.dst = some d) (hk : Nat.blt d n = true) (hs : execOp (evn n f) o = (s >>= fun v => pure (Next.value v))) (hrun : s.run P w = .ok v w')
    (hS : SF fs (L.setIfInBounds i true) w') (h : SF fs (L.setIfInBounds i true) w' → WT P ops Q fs k (L.setIfInBounds i true) n (upd f d v) w') : WO P ops Q fs k L i n f w := by
  refine o_step i hi hg ?_
  unfold Oper.wp
  rw [eval_eq, hs, run_val hrun, Oper.upon_value, hd, put_mk hk]
  exact ⟨hS, (h hS).out⟩
theorem o_wn (i : Nat) {o : Oper} {s : Sem Value} (hi : ops[i]? = some o) (hg : Region.wanted o (yielded ops (mk n f).tmps) = true) (hd : o.dst = none) (hs : execOp (evn n f) o = (s >>= fun v => pure (Next.value v))) (hrun : s.run P w = .ok v w')
    (hS : SF fs (L.setIfInBounds i true) w') (h : SF fs (L.setIfInBounds i true) w' → WT P ops Q fs k (L.setIfInBounds i true) n f w') : WO P ops Q fs k L i n f w := by
  refine o_step i hi hg ?_
  unfold Oper.wp
  rw [eval_eq, hs, run_val hrun, Oper.upon_value, hd]
  exact ⟨hS, (h hS).out⟩
theorem o_u (i : Nat) {o : Oper} {s : Sem Unit} (hi : ops[i]? = some o) (hg : Region.wanted o (yielded ops (mk n f).tmps) = true) (hd : o.dst = none) (hs : execOp (evn n f) o = (s >>= fun _ => pure Next.skip)) (hrun : s.run P w = .ok () w')
    (hS : SF fs (L.setIfInBounds i true) w') (h : SF fs (L.setIfInBounds i true) w' → WT P ops Q fs k (L.setIfInBounds i true) n f w') : WO P ops Q fs k L i n f w := by
  refine o_step i hi hg ?_
  unfold Oper.wp
  rw [eval_eq, hs, run_unit hrun, Oper.upon_skip, hd]
  exact ⟨hS, (h hS).out⟩
theorem o_call (i : Nat) {o : Oper} {g : FuncId} {args : Array Value} (hi : ops[i]? = some o) (hg : Region.wanted o (yielded ops (mk n f).tmps) = true) (hd : o.dst = some d) (hk : Nat.blt d n = true) (hrun : (execOp (evn n f) o).run P w = .ok (.enter g args) w)
    (h : Calls P g args w fun e w' => ∃ v, e = .returned v ∧ SF fs (L.setIfInBounds i true) w' ∧ (SF fs (L.setIfInBounds i true) w' → WT P ops Q fs k (L.setIfInBounds i true) n (upd f d v) w')) : WO P ops Q fs k L i n f w := by
  refine o_step i hi hg ?_
  unfold Oper.wp
  rw [eval_eq, hrun, Oper.upon_enter]
  refine h.mono ?_
  rintro e w' ⟨v, rfl, hS, h'⟩
  show SF fs _ w' ∧ T P ops Q fs k _ ((mk n f).put o.dst v) w'
  rw [hd, put_mk hk]
  exact ⟨hS, (h' hS).out⟩
theorem o_calln (i : Nat) {o : Oper} {g : FuncId} {args : Array Value} (hi : ops[i]? = some o) (hg : Region.wanted o (yielded ops (mk n f).tmps) = true) (hd : o.dst = none) (hrun : (execOp (evn n f) o).run P w = .ok (.enter g args) w)
    (h : Calls P g args w fun e w' => ∃ v, e = .returned v ∧ SF fs (L.setIfInBounds i true) w' ∧ (SF fs (L.setIfInBounds i true) w' → WT P ops Q fs k (L.setIfInBounds i true) n f w')) : WO P ops Q fs k L i n f w := by
  refine o_step i hi hg ?_
  unfold Oper.wp
  rw [eval_eq, hrun, Oper.upon_enter]
  refine h.mono ?_
  rintro e w' ⟨v, rfl, hS, h'⟩
  show SF fs _ w' ∧ T P ops Q fs k _ ((mk n f).put o.dst v) w'
  rw [hd]
  exact ⟨hS, (h' hS).out⟩
theorem o_skip (i : Nat) {o : Oper} {j e : Nat} {b : Bool} (hi : ops[i]? = some o) (hg : o.guard = some (j, b)) (hj : (ops[j]?).bind (·.dst) = some e) (he : Nat.blt e n = true) (hf : f e = .bool (!b) ∨ f e = undef) (hd : o.dst = some d) (hk : Nat.blt d n = true)
    (hS : SF fs (L.setIfInBounds i true) w) (h : SF fs (L.setIfInBounds i true) w → WT P ops Q fs k (L.setIfInBounds i true) n (upd f d undef) w) : WO P ops Q fs k L i n f w := by
  refine ⟨?_⟩
  unfold wpOp
  have hw : Region.wanted o (yielded ops (mk n f).tmps) = false := by rcases hf with hf | hf <;> cases b <;> simp [Region.wanted, hg, yielded, hj, get?_mk he, hf, undef]
  simp only [hi, hw, Bool.false_eq_true, if_false]
  rw [hd, put_mk hk]
  exact ⟨hS, (h hS).out⟩
theorem o_kstep (i : Nat) {o : Oper} (v : Value) (w' : World) (hi : ops[i]? = some o) (hg : Region.wanted o (yielded ops (mk n f).tmps) = true) (hd : o.dst = some d) (hk : Nat.blt d n = true) (hrun : (execOp (evn n f) o).run P w = .ok (.value v) w')
    (hS : SF fs (L.setIfInBounds i true) w') (h : SF fs (L.setIfInBounds i true) w' → WT P ops Q fs k (L.setIfInBounds i true) n (upd f d v) w') : WO P ops Q fs k L i n f w := by
  refine o_step i hi hg ?_
  unfold Oper.wp
  rw [eval_eq, hrun, Oper.upon_value, hd, put_mk hk]
  exact ⟨hS, (h hS).out⟩
theorem t_two (i j : Nat) (hr : Region.ready .any ops L = [i, j]) (h1 : WO P ops Q fs k L i n f w) (h2 : WO P ops Q fs k L j n f w) : WT P ops Q fs (k + 1) L n f w := by
  refine ⟨⟨fun h0 => (by rw [hr] at h0; cases h0), fun x hx => ?_⟩⟩
  rw [hr] at hx
  rcases List.mem_cons.1 hx with rfl | hx
  · exact h1.out
  · obtain rfl : x = j := by simpa using hx
    exact h2.out
theorem t_three (i j l : Nat) (hr : Region.ready .any ops L = [i, j, l]) (h1 : WO P ops Q fs k L i n f w) (h2 : WO P ops Q fs k L j n f w) (h3 : WO P ops Q fs k L l n f w) : WT P ops Q fs (k + 1) L n f w := by
  refine ⟨⟨fun h0 => (by rw [hr] at h0; cases h0), fun x hx => ?_⟩⟩
  rw [hr] at hx
  rcases List.mem_cons.1 hx with rfl | hx
  · exact h1.out
  · rcases List.mem_cons.1 hx with rfl | hx
    · exact h2.out
    · obtain rfl : x = l := by simpa using hx
      exact h3.out
theorem cell_alloc {ob : Obj} {a : Addr} (h : w.cell? a = some v) : (w.alloc ob).cell? a = some v := by
  have hb := World.block_lt_of_cell? w a h
  rw [← h]
  exact World.cell?_of_block (Below.heap_alloc w ob a.block hb)
theorem t_fork (b : Bool) (h1 : b = true → WT P ops Q fs k L n f w) (h2 : b = false → WT P ops Q fs k L n f w) : WT P ops Q fs k L n f w := by
  cases b
  · exact h2 rfl
  · exact h1 rfl
theorem T_weak {x : Ft} : ∀ {k : Nat} {L : Array Bool} {a : Act} {w : World}, T P ops Q (x :: fs) k L a w → T P ops Q fs k L a w
  | 0, _, _, _, h => h
  | k + 1, _, _, _, h => ⟨h.1, fun i hi => wpOp_mono (fun a' w' h' => ⟨fun y hy => h'.1 y (List.mem_cons_of_mem _ hy), T_weak h'.2⟩) (h.2 i hi)⟩
theorem t_add (x : Ft) (h : WT P ops Q (x :: fs) k L n f w) : WT P ops Q fs k L n f w := ⟨T_weak h.out⟩
theorem t_frame {g : Fr} (e : g = f) (h : WT P ops Q fs k L n g w) : WT P ops Q fs k L n f w := e ▸ h
theorem wanted_none (h : o.guard = none) {y : Nat → Option Bool} : Region.wanted o y = true := by simp [Region.wanted, h]
theorem wanted_some {j e : Nat} {b : Bool} (hg : o.guard = some (j, b)) (hj : (ops[j]?).bind (·.dst) = some e) (he : Nat.blt e n = true) (hf : f e = .bool b) : Region.wanted o (yielded ops (mk n f).tmps) = true := by
  simp [Region.wanted, hg, yielded, hj, get?_mk he, hf]
theorem Sw.fact {x : Ft} (hx : x ∈ fs) (hr : x.rd = i) (h : Sw fs i w) : x.p w := by
  obtain ⟨L, hL, hS⟩ := h
  exact hS x hx (.inl (by rw [hr]; exact hL))
theorem SF_nil {L : Array Bool} : SF [] L w := fun x hx => by cases hx
theorem SF_cons {x : Ft} (h : (L.getD x.rd true = false ∨ ∀ e ∈ x.aft, L.getD e false = false) → x.p w) (hr : SF fs L w) : SF (x :: fs) L w := by
  intro y hy hc
  rcases List.mem_cons.1 hy with rfl | hy
  · exact h hc
  · exact hr y hy hc
/-- A fact that is asked for no more. -/
theorem SF_off {x : Ft} (h1 : L.getD x.rd true = true) (h2 : (x.aft.any fun e => L.getD e false) = true) (hr : SF fs L w) : SF (x :: fs) L w :=
  SF_cons (fun hc => by
    rcases hc with hc | hc
    · rw [h1] at hc; cases hc
    · obtain ⟨e, he, h3⟩ := List.any_eq_true.1 h2
      rw [hc e he] at h3; cases h3) hr
theorem SF_on {x : Ft} (h : x.p w) (hr : SF fs L w) : SF (x :: fs) L w := SF_cons (fun _ => h) hr
end
end Go.Proofs.Ytjgijifankaglaa.SX
