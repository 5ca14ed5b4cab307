/- Books side by side; rows of any length; what a list of accounts tells of a tenant. -/
import Derived.Test.YthhcaaellhdkiaaQD
namespace Go.Proofs.Ythhcaaellhdkiaa
open Go Go.RowKit Go.Proofs.Ythhcaaellhdkiaa.SX
set_option linter.unusedVariables false

/-! ### rows of any length -/
section
variable {w w' : World} {g e : Nat} {cs : Array Value}
theorem rowN_has (h : w.heap[g]? = some (.cells cs e (0, 0))) : ∀ (k i : Nat), i + k ≤ cs.size → HasCells w (⟨g, 0, none⟩ : Addr) i k
  | 0, _, _ => trivial
  | k + 1, i, hk => ⟨by rw [add_lit]; exact row_has h (by omega), rowN_has h k (i + 1) (by omega)⟩
theorem rowN_sets : ∀ (vs : List Value) (i : Nat) (w : World) (cs : Array Value), w.heap[g]? = some (.cells cs e (0, 0)) → i + vs.length = cs.size →
    (setCells w (⟨g, 0, none⟩ : Addr) i vs).heap[g]? = some (.cells (cs.toList.take i ++ vs).toArray e (0, 0)) ∧ Gr (fun k => k = g) w (setCells w (⟨g, 0, none⟩ : Addr) i vs)
  | [], i, w, cs, h, hl => by
    simp only [setCells, List.append_nil]
    rw [List.take_of_length_le (by simp at hl ⊢; omega)]
    exact ⟨h, Gr.refl _ _⟩
  | v :: vs, i, w, cs, h, hl => by
    simp only [setCells, add_lit]
    simp only [List.length_cons] at hl
    have h1 := row_set (j := i) h v
    obtain ⟨h2, h3⟩ := rowN_sets vs (i + 1) (w.setCell ⟨g, i, none⟩ v) (cs.setIfInBounds i v) h1 (by simp; omega)
    refine ⟨?_, (gr_setl w g i v).trans h3 (fun _ _ h => h)⟩
    rw [h2]
    congr 3
    have : i < cs.toList.length := by simp; omega
    rw [Array.toList_setIfInBounds, List.take_add_one, List.take_set, List.set_eq_of_length_le (by simp; omega)]
    simp [show i < cs.size by omega]
theorem rowN_full {vs : List Value} (h : w.heap[g]? = some (.cells cs e (0, 0))) (hl : vs.length = cs.size) :
    (setCells w (⟨g, 0, none⟩ : Addr) 0 vs).heap[g]? = some (.cells vs.toArray e (0, 0)) ∧ Gr (fun k => k = g) w (setCells w (⟨g, 0, none⟩ : Addr) 0 vs) := by
  have := rowN_sets vs 0 w cs h (by omega)
  simpa using this
end

/-! ### what is told of a tenant -/
def val : Accs → ByteArray → Option Acc
  | [], _ => none
  | (k, a) :: m, t => if t = k then some a else val m t
theorem val_look : ∀ (m : Accs) (t : ByteArray), val m t = (look m t).map (·.2)
  | [], t => rfl
  | (k, a) :: m, t => by
    simp only [val, look]
    split
    · rfl
    · rw [val_look m t]; cases look m t <;> rfl
theorem getA_val (m : Accs) (t : ByteArray) : getA m t = (val m t).getD .zero := by rw [val_look]; rfl
theorem some_val (m : Accs) (t : ByteArray) : (look m t).isSome = (val m t).isSome := by rw [val_look]; cases look m t <;> rfl
def Uniq (m : Accs) : Prop := (m.map (·.1)).Nodup
theorem val_append (m : Accs) (u t : ByteArray) (a : Acc) (hu : val m u = none) : val (m ++ [(u, a)]) t = if t = u then some a else val m t := by
  induction m with
  | nil => simp [val]
  | cons x m ih =>
    obtain ⟨k, b⟩ := x
    simp only [val] at hu
    split at hu
    · cases hu
    · rename_i hk
      simp only [List.cons_append, val, ih hu]
      by_cases h1 : t = k
      · rw [if_pos h1, if_pos h1, if_neg (fun h => hk (by rw [← h, h1]))]
      · rw [if_neg h1, if_neg h1]
theorem val_set : ∀ (m : Accs) (u t : ByteArray) (a : Acc) (i : Nat) (b : Acc), look m u = some (i, b) → val (m.set i (u, a)) t = if t = u then some a else val m t
  | [], u, t, a, i, b, h => by simp [look] at h
  | (k, c) :: m, u, t, a, i, b, h => by
    simp only [look] at h
    split at h
    · rename_i hk
      simp at h
      obtain ⟨rfl, rfl⟩ := h
      subst hk
      simp only [List.set_cons_zero, val]
      split <;> rfl
    · rename_i hk
      obtain ⟨⟨j, d⟩, h1, h2⟩ := Option.map_eq_some_iff.1 h
      simp at h2
      obtain ⟨rfl, rfl⟩ := h2
      have ih := val_set m u t a j d h1
      simp only [List.set_cons_succ, val, ih]
      by_cases h3 : t = k
      · rw [if_pos h3, if_pos h3, if_neg (fun h => hk (by rw [← h, h3]))]
      · rw [if_neg h3, if_neg h3]
theorem val_put (m : Accs) (u t : ByteArray) (a : Acc) : val (put m u a) t = if t = u then some a else val m t := by
  unfold put
  cases hl : look m u with
  | none => exact val_append m u t a (by rw [val_look, hl]; rfl)
  | some x => exact val_set m u t a x.1 x.2 hl
theorem val_none_of {m : Accs} {t : ByteArray} (h : t ∉ m.map (·.1)) : val m t = none := by
  induction m with
  | nil => rfl
  | cons x m ih =>
    obtain ⟨k, b⟩ := x
    simp at h
    simp only [val]
    rw [if_neg h.1]
    exact ih (by simpa using h.2)
theorem val_del : ∀ (m : Accs) (u t : ByteArray), Uniq m → val (del m u) t = if t = u then none else val m t
  | [], u, t, _ => by simp [del, look, val]
  | (k, c) :: m, u, t, hu => by
    have hk : k ∉ m.map (·.1) ∧ Uniq m := by
      unfold Uniq at hu
      exact List.nodup_cons.1 hu
    by_cases h1 : u = k
    · subst h1
      have : del ((u, c) :: m) u = m := by simp [del, look]
      rw [this]
      simp only [val]
      by_cases h2 : t = u
      · rw [if_pos h2, h2]; exact val_none_of hk.1
      · rw [if_neg h2, if_neg h2]
    · have : del ((k, c) :: m) u = (k, c) :: del m u := by
        simp only [del, look, if_neg h1]
        cases look m u with
        | none => rfl
        | some x => simp
      rw [this]
      simp only [val, val_del m u t hk.2]
      by_cases h2 : t = k
      · rw [if_pos h2, if_pos h2, if_neg (fun h => h1 (by rw [← h, h2]))]
      · rw [if_neg h2, if_neg h2]
theorem keys_set : ∀ (m : Accs) (u : ByteArray) (a : Acc) (i : Nat) (b : Acc), look m u = some (i, b) → (m.set i (u, a)).map (·.1) = m.map (·.1)
  | [], u, a, i, b, h => by simp [look] at h
  | (k, c) :: m, u, a, i, b, h => by
    simp only [look] at h
    split at h
    · rename_i hk
      simp at h
      obtain ⟨rfl, rfl⟩ := h
      subst hk
      simp
    · obtain ⟨⟨j, d⟩, h1, h2⟩ := Option.map_eq_some_iff.1 h
      simp at h2
      obtain ⟨rfl, rfl⟩ := h2
      simpa using keys_set m u a j d h1
theorem key_none : ∀ {m : Accs} {u : ByteArray}, look m u = none → u ∉ m.map (·.1)
  | [], u, _ => by simp
  | (k, c) :: m, u, h => by
    simp only [look] at h
    split at h
    · cases h
    · rename_i hk
      have := key_none (m := m) (u := u) (by simpa using h)
      simp only [List.map_cons, List.mem_cons, not_or]
      exact ⟨hk, this⟩
theorem uniq_append {m : Accs} (h : Uniq m) {u : ByteArray} (a : Acc) (hu : look m u = none) : Uniq (m ++ [(u, a)]) := by
  unfold Uniq at h ⊢
  rw [List.map_append, List.nodup_append]
  refine ⟨h, by simp, fun x hx y hy e => ?_⟩
  simp at hy
  subst hy
  exact key_none hu (e ▸ hx)
theorem uniq_put {m : Accs} (h : Uniq m) (u : ByteArray) (a : Acc) : Uniq (put m u a) := by
  unfold put
  cases hl : look m u with
  | none => exact uniq_append h a hl
  | some x =>
    unfold Uniq at h ⊢
    rw [keys_set m u a x.1 x.2 hl]; exact h
theorem uniq_del {m : Accs} (h : Uniq m) (u : ByteArray) : Uniq (del m u) := by
  unfold del
  cases hl : look m u with
  | none => exact h
  | some x =>
    unfold Uniq at h ⊢
    rw [map_eraseIdx']
    exact h.sublist (List.eraseIdx_sublist _ _)
theorem putC_zero {m : Accs} {t : ByteArray} {a : Acc} (h : putC m t a = 0) : look m t = none := by
  unfold putC at h
  split at h
  · omega
  · split at h
    · omega
    · split at h
      · omega
      · rename_i hk
        cases hl : look m t with
        | none => rfl
        | some x => rw [hl] at hk; simp at hk
theorem uniq_putM {m : Accs} (h : Uniq m) (u : ByteArray) (a : Acc) : Uniq (putM m u a) := by
  unfold putM
  split
  · rename_i h0; exact uniq_append h a (putC_zero h0)
  · exact h
theorem uniq_takeM {m : Accs} (h : Uniq m) (u : ByteArray) (win n k : Int) : Uniq (takeM m u win n k) := by
  unfold takeM
  split
  · exact uniq_put h u _
  · exact h
theorem val_putM (m : Accs) (u t : ByteArray) (a : Acc) : val (putM m u a) t = if putC m u a = 0 ∧ t = u then some a else val m t := by
  unfold putM
  by_cases h0 : putC m u a = 0
  · rw [if_pos h0, val_append m u t a (by rw [val_look, putC_zero h0]; rfl)]
    by_cases h1 : t = u
    · rw [if_pos h1, if_pos ⟨h0, h1⟩]
    · rw [if_neg h1, if_neg (fun h => h1 h.2)]
  · rw [if_neg h0, if_neg (fun h => h0 h.1)]
theorem val_takeM (m : Accs) (u t : ByteArray) (win n k : Int) : val (takeM m u win n k) t = if takeC m u win n k = 0 ∧ t = u then some (takeA (getA m u) win n k) else val m t := by
  unfold takeM
  by_cases h0 : takeC m u win n k = 0
  · rw [if_pos h0, val_put]
    by_cases h1 : t = u
    · rw [if_pos h1, if_pos ⟨h0, h1⟩]
    · rw [if_neg h1, if_neg (fun h => h1 h.2)]
  · rw [if_neg h0, if_neg (fun h => h0 h.1)]
theorem putC_val {m m' : Accs} {t : ByteArray} (h : val m t = val m' t) (a : Acc) : putC m t a = putC m' t a := by
  unfold putC; rw [some_val, some_val, h]
theorem takeC_val {m m' : Accs} {t : ByteArray} (h : val m t = val m' t) (win n k : Int) : takeC m t win n k = takeC m' t win n k := by
  unfold takeC; rw [some_val, some_val, getA_val, getA_val, h]

/-! ### the same account -/
theorem eqFields_step {P : Program} {w : World} {d : Nat} {xs : Array Value} {f : Field} {fs : List Field} {k : IntKind} {n : Int} (hn : f.name ≠ "_") (hp : (part f.type xs f.offset).run P w = .ok (.int k n) w) (hu : P.underlying f.type = some (.int k)) :
    (Op.eqFields (d + 1) xs xs (f :: fs)).run P w = (Op.eqFields (d + 1) xs xs fs).run P w := by
  have he := run_equalIn_int w d f.type k k n n hu
  simp [Op.eqFields, hn, hp, he, Result.andThen]
theorem neq87_same (w : World) (x y : Operand) (a : Acc) : (do eqGuard .neq 87 x y a.v a.v; binOp .neq 87 a.v a.v : Sem Value).run Try.prog w = .ok (.bool false) w := by
  rw [Sem.run_bind, run_eqGuard_agg w .neq 87 x y _ _ (by kernel_rfl)]
  rw [Result.andThen_ok, run_neq_struct, run_equalIn_struct w 9999 87 _ _ (by kernel_rfl) (by kernel_rfl)]
  have hfs : (Try.prog.fieldsOf 87).toList = [(Try.prog.fieldsOf 87)[0]!, (Try.prog.fieldsOf 87)[1]!, (Try.prog.fieldsOf 87)[2]!, (Try.prog.fieldsOf 87)[3]!, (Try.prog.fieldsOf 87)[4]!] := by kernel_rfl
  rw [hfs]
  have hn : ∀ i : Fin 5, (Try.prog.fieldsOf 87)[i.val]!.name ≠ "_" := by decide +kernel
  have n0 : (Try.prog.fieldsOf 87)[0]!.name ≠ "_" := hn 0
  have n1 : (Try.prog.fieldsOf 87)[1]!.name ≠ "_" := hn 1
  have n2 : (Try.prog.fieldsOf 87)[2]!.name ≠ "_" := hn 2
  have n3 : (Try.prog.fieldsOf 87)[3]!.name ≠ "_" := hn 3
  have n4 : (Try.prog.fieldsOf 87)[4]!.name ≠ "_" := hn 4
  have p0 : (part (Try.prog.fieldsOf 87)[0]!.type a.row (Try.prog.fieldsOf 87)[0]!.offset).run Try.prog w = .ok (.int .i64 a.ms) w := by kernel_rfl
  have p1 : (part (Try.prog.fieldsOf 87)[1]!.type a.row (Try.prog.fieldsOf 87)[1]!.offset).run Try.prog w = .ok (.int .i64 a.mp) w := by kernel_rfl
  have p2 : (part (Try.prog.fieldsOf 87)[2]!.type a.row (Try.prog.fieldsOf 87)[2]!.offset).run Try.prog w = .ok (.int .i64 a.sr) w := by kernel_rfl
  have p3 : (part (Try.prog.fieldsOf 87)[3]!.type a.row (Try.prog.fieldsOf 87)[3]!.offset).run Try.prog w = .ok (.int .i64 a.wr) w := by kernel_rfl
  have p4 : (part (Try.prog.fieldsOf 87)[4]!.type a.row (Try.prog.fieldsOf 87)[4]!.offset).run Try.prog w = .ok (.int .i64 a.wi) w := by kernel_rfl
  have u0 : Try.prog.underlying (Try.prog.fieldsOf 87)[0]!.type = some (.int .i64) := by kernel_rfl
  have u1 : Try.prog.underlying (Try.prog.fieldsOf 87)[1]!.type = some (.int .i64) := by kernel_rfl
  have u2 : Try.prog.underlying (Try.prog.fieldsOf 87)[2]!.type = some (.int .i64) := by kernel_rfl
  have u3 : Try.prog.underlying (Try.prog.fieldsOf 87)[3]!.type = some (.int .i64) := by kernel_rfl
  have u4 : Try.prog.underlying (Try.prog.fieldsOf 87)[4]!.type = some (.int .i64) := by kernel_rfl
  have hE : (Op.eqFields (9998 + 1) a.row a.row [(Try.prog.fieldsOf 87)[0]!, (Try.prog.fieldsOf 87)[1]!, (Try.prog.fieldsOf 87)[2]!, (Try.prog.fieldsOf 87)[3]!, (Try.prog.fieldsOf 87)[4]!]).run Try.prog w = .ok true w := by
    rw [eqFields_step n0 p0 u0, eqFields_step n1 p1 u1, eqFields_step n2 p2 u2, eqFields_step n3 p3 u3, eqFields_step n4 p4 u4]
    rfl
  have hd : 9999 = 9998 + 1 := rfl
  rw [hd, hE]
  rfl

/-! ### two books -/
structure TB (W w : World) (qa ba : Nat) (ma : Accs) (qb bb : Nat) (mb : Accs) : Prop where
  a : OB W w qa ba ma
  b : OB W w qb bb mb
  d1 : ba ≠ qb
  d2 : ba ≠ bb
  d3 : bb ≠ qa
section
variable {W w w1 : World} {qa ba qb bb : Nat} {ma mb m' : Accs}
theorem TB.below (h : TB W w qa ba ma qb bb mb) (hb : Below w.heap.size w w1) : TB W w1 qa ba ma qb bb mb := ⟨h.a.below hb, h.b.below hb, h.d1, h.d2, h.d3⟩
theorem TB.upA (h : TB W w qa ba ma qb bb mb) (ho : OB W w1 qa ba m') (hg : Gr (fun k => k = ba) w w1) : TB W w1 qa ba m' qb bb mb :=
  ⟨ho, ⟨h.b.bk.keep hg (fun e => h.d1 e.symm) (fun e => h.d2 e.symm), h.b.q0, h.b.b0, ho.bel, h.b.inv⟩, h.d1, h.d2, h.d3⟩
theorem TB.upB (h : TB W w qa ba ma qb bb mb) (ho : OB W w1 qb bb m') (hg : Gr (fun k => k = bb) w w1) : TB W w1 qa ba ma qb bb m' :=
  ⟨⟨h.a.bk.keep hg (fun e => h.d3 e.symm) (fun e => h.d2 e), h.a.q0, h.a.b0, ho.bel, h.a.inv⟩, ho, h.d1, h.d2, h.d3⟩
theorem OB.new2 (h : Below W.heap.size W w) : Calls Try.prog 28 #[] w (fun e w1 => ∃ (r : Option Addr), e = .returned (.pointer r : Value) ∧ (∃ q b, r = some ⟨q, 0, none⟩ ∧ OB W w1 q b [] ∧ w.heap.size ≤ q ∧ w.heap.size ≤ b ∧ Below w.heap.size w w1)) := by
  refine (C28 w).mono ?_
  rintro _ w1 ⟨_, rfl, q, b, rfl, h1, hq, hb, hbel⟩
  have := h.size
  exact ⟨_, rfl, q, b, rfl, ⟨h1, by omega, by omega, h.trans (hbel.mono h.size), inv_nil⟩, hq, hb, hbel⟩
end
end Go.Proofs.Ythhcaaellhdkiaa
