/- Walk of both sides. -/
import Derived.Test.YtjgijifankaglaaWC
namespace Go.Proofs.Ytjgijifankaglaa
open Go Go.RowKit Go.Proofs.Ytjgijifankaglaa.SX
set_option linter.unusedVariables false

section
variable {w w' : World} {g e j : Nat} {cs : Array Value} {S : Nat → Prop}
theorem row_get2 (h : w.heap[g]? = some (.cells cs e (0, 0))) (j : Nat) : w.cell? ⟨g, j, none⟩ = cs[j]? := cell_of_row w g j cs e (0, 0) h
theorem has_row (h : w.heap[g]? = some (.cells cs e (0, 0))) (hj : j < cs.size) : HasCell w ⟨g, j, none⟩ := by
  refine ⟨⟨cs[j], ?_⟩, ?_⟩
  · rw [row_get2 h]; simp [hj]
  · unfold World.frozen?; rw [h]; simp
theorem row_set2 (h : w.heap[g]? = some (.cells cs e (0, 0))) (v : Value) : (w.setCell ⟨g, j, none⟩ v).heap[g]? = some (.cells (cs.setIfInBounds j v) e (0, 0)) := by
  unfold World.setCell
  simp [Array.getElem?_modify, h]
theorem gr_blk2 (hg : Gr S w w') (h : w.heap[g]? = some (.cells cs e (0, 0))) (hn : ¬ S g) : w'.heap[g]? = some (.cells cs e (0, 0)) := by
  rw [hg.block g (row_lt2 h) hn]; exact h
theorem gr_set2 (w : World) (p : Addr) (v : Value) : Gr (fun k => k = p.block) w (w.setCell p v) := Gr.row (grown_set w p v) (fun b hb => by cases hb; rfl)
end
theorem below_alloc' (w : World) (o : Obj) : Below w.heap.size w (w.alloc o) := (Below.refl _ _).alloc (Nat.le_refl _) _
theorem jn_len {o b t : Bool} : ∀ (a c : List Int), (jn o b t a c).length ≤ a.length + c.length
  | [], [] => by simp [jn]
  | x :: a, [] => by have := jn_len (o := o) (b := b) (t := t) a []; unfold jn opt; split <;> simp at this ⊢ <;> omega
  | [], y :: c => by have := jn_len (o := o) (b := b) (t := t) [] c; unfold jn opt; split <;> simp at this ⊢ <;> omega
  | x :: a, y :: c => by
    have h1 := jn_len (o := o) (b := b) (t := t) a (y :: c)
    have h2 := jn_len (o := o) (b := b) (t := t) (x :: a) c
    have h3 := jn_len (o := o) (b := b) (t := t) a c
    unfold jn opt
    simp only [List.length_cons] at h1 h2 h3 ⊢
    split
    · split <;> simp <;> omega
    · split
      · split <;> simp <;> omega
      · split <;> simp <;> omega
theorem joi_len {o b t : Bool} (a c : List Int) : (joi o b t a c).length ≤ a.length + c.length := by
  unfold joi
  split
  · exact jn_len a c
  · simp
theorem ul_len : ∀ (R : LL) (a : List Int) (N : Nat), (∀ l ∈ R, l.length ≤ N) → (R.foldl (fun out l => joi true true true out l) a).length ≤ a.length + N * R.length
  | [], a, N, _ => by simp
  | c :: R, a, N, h => by
    have h1 := ul_len R (joi true true true a c) N (fun l hl => h l (List.mem_cons_of_mem _ hl))
    have h2 := joi_len (o := true) (b := true) (t := true) a c
    have h3 := h c (List.mem_cons_self ..)
    rw [List.foldl_cons, List.length_cons, Nat.mul_add]; omega
theorem tyR : Ty Try.prog 40 22 (.slice none 0 0) 24 := ⟨Try.underlying40, by kernel_rfl, rfl, by decide⟩
theorem own_at {α : Type} {enc : α → Value} {e base : Nat} {w : World} {s : Sl} {xs : List α} (h : SX.Own enc e base w s xs) {k : Nat} (hk : s.blk = some k) : ∃ cur, w.heap[k]? = some (.cells cur e (0, 0)) := by
  rcases h.form with ⟨rfl, _⟩ | ⟨g, cap, cur, rfl, _, h3, _⟩
  · cases hk
  · cases hk; exact ⟨cur, h3⟩
theorem own_ne {α β : Type} {enc : α → Value} {enc' : β → Value} {e e' base base' : Nat} {w : World} {s s' : Sl} {xs : List α} {ys : List β} (h : SX.Own enc e base w s xs) (h' : SX.Own enc' e' base' w s' ys) (he : e ≠ e') {k : Nat} (hk : s.blk = some k) : s'.blk ≠ some k := by
  intro hk'
  obtain ⟨c1, h1⟩ := own_at h hk
  obtain ⟨c2, h2⟩ := own_at h' hk'
  rw [h1] at h2
  simp only [Option.some.injEq, Obj.cells.injEq] at h2
  exact he h2.2.1
/-- what Walk has captured, its own -/
def AllOwn (B : Nat) (W : World) (c : Nat) (rs : List (Sl × List Int)) : Prop := ∃ all : Sl, B ≤ c ∧ W.heap[c]? = some (.cells #[.slice all.a all.n all.c] 40 (0, 0)) ∧ SX.Own RV 22 B W all rs ∧ ∀ r ∈ rs, SX.Own E4 23 B W r.1 r.2
theorem C37 {w : World} {l : Sl} {rs : List (Sl × List Int)} (hl : Rd RV w l rs) (hr : ∀ r ∈ rs, Rd E4 w r.1 r.2) (hlen : ∀ r ∈ rs, r.2.length ≤ 400) (hn9 : rs.length ≤ 9) :
    Calls Try.prog 37 #[.slice l.a l.n l.c] w (fun e w1 => ∃ (r0 : Value), e = .returned r0 ∧ (Below w.heap.size w w1 ∧
      ((AUp (rs.map (·.2)) ∧ ∃ c rs', r0 = .func (.func 74) #[] #[.pointer (some ⟨c, 0, none⟩)] ∧ AllOwn w.heap.size w1 c rs' ∧ rs'.map (·.2) = rs.map (·.2)) ∨ (¬ AUp (rs.map (·.2)) ∧ r0 = .func (.func 73) #[] #[])))) := by
  refine F37_sound l (fun r0 w1 => Below w.heap.size w w1 ∧ ((AUp (rs.map (·.2)) ∧ ∃ c rs', r0 = .func (.func 74) #[] #[.pointer (some ⟨c, 0, none⟩)] ∧ AllOwn w.heap.size w1 c rs' ∧ rs'.map (·.2) = rs.map (·.2)) ∨ (¬ AUp (rs.map (·.2)) ∧ r0 = .func (.func 73) #[] #[]))) w ?_
  unfold F37
  have hln := hl.1
  obtain ⟨t, w3, r3, o3, b3⟩ : ∃ (s : Sl) (w3 : World), (Instr.makeSlice 40 (.int .i64 0) (.int .i64 (l.n : Int))).run Try.prog w = .ok (.slice s.a s.n s.c) w3 ∧ SX.Own RV 22 w.heap.size w3 s [] ∧ Below w.heap.size w w3 :=
    ⟨⟨_, _, _⟩, _, mk_own (P := Try.prog) (w := w) (enc := RV) tyR (x := (⟨none, 0, 0⟩, [])) rfl 0 (l.n : Int) 0 l.n rfl rfl (Nat.zero_le _) (by omega) (by simp only [maxLen]; omega)⟩
  refine ⟨t, w3, r3, ?_⟩
  intro w4 e
  have h4 : w4.heap[w3.heap.size]? = some (.cells #[.slice none 0 0] 40 (0, 0)) := by rw [e]; exact heap_alloc_new w3 _
  have b4 : Below w3.heap.size w3 w4 := by rw [e]; exact below_alloc' _ _
  clear e
  refine ⟨has_row h4 (by show 0 < 1; omega), ?_⟩
  intro w5 e
  have h5 := row_set2 h4 (j := 0) (.slice t.a t.n t.c)
  have q5 := gr_set2 w4 ⟨w3.heap.size, 0, none⟩ (.slice t.a t.n t.c)
  rw [← e] at h5 q5
  clear e
  have z3 := b3.size
  have b5 := b3.trans ((b4.mono z3).trans (q5.toBelow (B := w.heap.size) (Nat.le_trans z3 b4.size) (fun k hk => by (try dsimp only at hk); omega)))
  have o5 : SX.Own RV 22 w.heap.size w5 t [] := q5.own (o3.below b4) (fun k hk h => by have := (o3.blk_ge k hk).2; (try dsimp only at h); omega)
  refine ⟨fun st wr => ∃ (i : Nat) (all : Sl) (rs' : List (Sl × List Int)), st = (i : Int) ∧ i ≤ rs.length ∧ AUp ((rs.take i).map (·.2)) ∧ wr.heap[w3.heap.size]? = some (.cells #[.slice all.a all.n all.c] 40 (0, 0)) ∧ SX.Own RV 22 w.heap.size wr all rs' ∧ (∀ r ∈ rs', SX.Own E4 23 w.heap.size wr r.1 r.2) ∧ rs'.map (·.2) = (rs.take i).map (·.2) ∧ Below w.heap.size w wr, fun st _ => (rs.length - st).toNat, ⟨0, t, [], rfl, Nat.zero_le _, (fun l hl => nomatch hl), h5, o5, (fun r hr => nomatch hr), rfl, b5⟩, ?_⟩
  clear h4 h5 b4 b5 o5 o3 q5
  rintro _ wr ⟨i, all, rs', rfl, hi, hU, hbox, ho, hrows, hmap, hw⟩
  unfold F37_l1
  have hcl := row_lt2 hbox
  refine ⟨fun hlt => ?_, fun hge => ?_⟩
  · have hin : i < rs.length := by omega
    obtain ⟨a, ha, hcell⟩ := (hl.below hw).at i hin
    have hmem : rs[i] ∈ rs := List.getElem_mem hin
    refine ⟨by omega, by omega, a, ha, rs[i].1, by rw [Int.toNat_natCast]; exact hcell, ?_⟩
    refine (C63 ((hr _ hmem).below hw)).mono ?_
    rintro _ w11 ⟨_, rfl, rfl, bq⟩
    have hw := hw.trans (bq.mono hw.size)
    refine ⟨_, rfl, fun hf => ?_, fun ht => ?_⟩
    · refine ⟨hw, .inr ⟨fun h => ?_, rfl⟩⟩
      have := up_rise (h rs[i].2 (List.mem_map.2 ⟨_, hmem, rfl⟩))
      rw [this] at hf; cases hf
    · intro w12 hd
      have bd : Below w11.heap.size w11 w12 := by rw [hd]; exact (Below.refl _ _).drew
      clear hd
      have B12 : Below wr.heap.size wr w12 := bq.trans (bd.mono bq.size)
      have hw := hw.trans (bd.mono hw.size)
      have hbox12 : w12.heap[w3.heap.size]? = some (.cells #[.slice all.a all.n all.c] 40 (0, 0)) := by rw [B12.block _ hcl]; exact hbox
      have cellbox : ∀ x : World, x.heap[w3.heap.size]? = some (.cells #[.slice all.a all.n all.c] 40 (0, 0)) → x.cell? ⟨w3.heap.size, 0, none⟩ = some (.slice all.a all.n all.c) := fun x hx => by rw [cell_of_row x w3.heap.size 0 _ 40 (0, 0) hx]; rfl
      refine ⟨all, cellbox _ hbox12, ?_⟩
      refine (C65 ((hr _ hmem).below hw) (by have := hlen _ hmem; omega)).mono ?_
      rintro _ w15 ⟨s', rfl, os', bq⟩
      have z12 := hw.size
      have B15 := B12.trans (bq.mono B12.size)
      have hw := hw.trans (bq.mono hw.size)
      have hbox15 : w15.heap[w3.heap.size]? = some (.cells #[.slice all.a all.n all.c] 40 (0, 0)) := by rw [B15.block _ hcl]; exact hbox
      refine ⟨s', rfl, cellbox _ hbox15, ?_⟩
      have ho15 := ho.below B15
      have hrows15 : ∀ r ∈ rs', SX.Own E4 23 w.heap.size w15 r.1 r.2 := fun r h => (hrows r h).below B15
      have os15 := os'.lower (b := w.heap.size) z12
      rintro w16 rfl
      obtain ⟨s2, w18, r18, A⟩ := ap_one (P := Try.prog) (ty := 40) (enc := RV) tyR (fun _ => rfl) ho15 (s', rs[i].2) hw.size (by
        have h1 : rs'.length = i := by
          have := congrArg List.length hmap
          simp only [List.length_map, List.length_take] at this
          omega
        omega)
      refine ⟨s2, w18, r18, ?_⟩
      have hcl15 := row_lt2 hbox15
      have hbox18 : w18.heap[w3.heap.size]? = some (.cells #[.slice all.a all.n all.c] 40 (0, 0)) := by
        rw [A.grown.block _ hcl15 (fun e => ?_)]
        · exact hbox15
        · obtain ⟨cur, h⟩ := own_at ho15 e.symm
          rw [hbox15] at h
          simp only [Option.some.injEq, Obj.cells.injEq] at h
          exact absurd h.2.1 (by decide)
      have keepr : ∀ (s : Sl) (xs : List Int), SX.Own E4 23 w.heap.size w15 s xs → SX.Own E4 23 w.heap.size w18 s xs := fun s xs h => h.kept A.grown (by
        cases hb : s.blk with
        | none => exact .inl rfl
        | some k => exact .inr (fun e => own_ne h ho15 (by decide) hb e.symm))
      refine ⟨has_row hbox18 (by show 0 < 1; omega), ?_⟩
      intro w19 e
      have h19 := row_set2 hbox18 (j := 0) (.slice s2.a s2.n s2.c)
      have q19 := gr_set2 w18 ⟨w3.heap.size, 0, none⟩ (.slice s2.a s2.n s2.c)
      rw [← e] at h19 q19
      clear e
      have ne23 : ∀ (s : Sl) (xs : List Int), SX.Own E4 23 w.heap.size w18 s xs → ∀ k, s.blk = some k → ¬ k = w3.heap.size := fun s xs h k hk hkc => by
        subst hkc
        obtain ⟨cur, h2⟩ := own_at h hk
        rw [hbox18] at h2
        simp only [Option.some.injEq, Obj.cells.injEq] at h2
        exact absurd h2.2.1 (by decide)
      have hw18 := A.below ho15 hw.size hw
      have o19 : SX.Own RV 22 w.heap.size w19 s2 (rs' ++ [(s', rs[i].2)]) := q19.own A.own (fun k hk hkc => by
        (try dsimp only at hkc)
        subst hkc
        obtain ⟨cur, h2⟩ := own_at A.own hk
        rw [hbox18] at h2
        simp only [Option.some.injEq, Obj.cells.injEq] at h2
        exact absurd h2.2.1 (by decide))
      rw [w_i64 (by omega) (by omega)]
      have htk : rs.take (i + 1) = rs.take i ++ [rs[i]] := (List.take_append_getElem hin).symm
      refine ⟨⟨i + 1, s2, rs' ++ [(s', rs[i].2)], by omega, by omega, ?_, h19, o19, ?_, ?_, hw18.trans (q19.toBelow hw18.size (fun k hk => by (try dsimp only at hk); omega))⟩, by (try dsimp only); omega⟩
      · rw [htk, List.map_append]
        intro x hx
        rcases List.mem_append.1 hx with hx | hx
        · exact hU x hx
        · rw [List.map_cons, List.map_nil, List.mem_singleton] at hx
          rw [hx]; exact rise_up ht
      · intro r h
        rcases List.mem_append.1 h with h | h
        · have := keepr _ _ (hrows15 r h)
          exact q19.own this (ne23 _ _ this)
        · rw [List.mem_singleton] at h
          subst h
          have := keepr _ _ os15
          exact q19.own this (ne23 _ _ this)
      · rw [htk, List.map_append, List.map_append, hmap]; rfl
  · have hin : i = rs.length := by omega
    subst hin
    rw [List.take_of_length_le (Nat.le_refl _)] at hU hmap
    exact ⟨hw, .inl ⟨hU, w3.heap.size, rs', rfl, ⟨all, by omega, hbox, ho, hrows⟩, hmap⟩⟩
end Go.Proofs.Ytjgijifankaglaa
