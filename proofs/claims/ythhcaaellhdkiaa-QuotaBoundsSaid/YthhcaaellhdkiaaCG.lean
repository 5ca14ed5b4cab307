/- The document's own writer: what each call does. -/
import Derived.Test.YthhcaaellhdkiaaCF
namespace Go.Proofs.Ythhcaaellhdkiaa
open Go Go.RowKit Go.Proofs.Ythhcaaellhdkiaa.SX
set_option linter.unusedVariables false

/-- The document's writer: its row is l; fp holds its blocks. -/
def Wf (w : World) (o : Addr) (l : List Bool) (fp : Nat → Prop) : Prop := ∃ s, Ob Value.bool 4 none w o s l fp
theorem Wf.keep {w w' : World} {o : Addr} {l : List Bool} {fp S : Nat → Prop} (h : Wf w o l fp) (hg : Gr S w w') (hn : ∀ k, fp k → ¬ S k) : Wf w' o l fp := by
  obtain ⟨s, h⟩ := h
  exact ⟨s, h.keep hg hn⟩
theorem C34 (w : World) : Calls Try.prog 34 #[] w (fun e w1 => ∃ (r : Option Addr), e = .returned (.pointer r : Value) ∧ (r = some ⟨w.heap.size, 0, none⟩ ∧ Wf w1 ⟨w.heap.size, 0, none⟩ [] (fun k => k = w.heap.size) ∧ Below w.heap.size w w1)) := by
  refine F34_sound (fun r w1 => r = some ⟨w.heap.size, 0, none⟩ ∧ Wf w1 ⟨w.heap.size, 0, none⟩ [] (fun k => k = w.heap.size) ∧ Below w.heap.size w w1) w ?_
  unfold F34
  rintro _ rfl
  refine ⟨rfl, ⟨⟨none, 0, 0⟩, ?_, by simp, (fun v hv => by cases hv), Own.nil, fun b hb => (nomatch hb), rfl, fun k hk => by subst hk; simp⟩, (Below.refl _ _).alloc (Nat.le_refl _) _⟩
  have := row_cell w #[.slice none 0 0] 113 0 (by decide) (Below.refl _ _)
  exact this
theorem C72 {w : World} {n : Int} : Calls Try.prog 72 #[.int .i64 n] w (fun e w1 => ∃ (r : Int), e = .returned (.int .i64 r : Value) ∧ (r = (cl n : Int) ∧ w1 = w)) := by
  refine F72_sound n (fun r w1 => r = (cl n : Int) ∧ w1 = w) w ?_
  unfold F72
  refine ⟨?_, rfl⟩
  unfold cl; split <;> split <;> omega
theorem bo_one (x : Nat) : bo x 1 = [x % 2 == 1] := by simp [bo]
theorem bit_u64 {v : Int} {i : Nat} (h0 : 0 ≤ v) (h1 : v < 18446744073709551616) (hi : i ≤ 64) : ((ibits .and .u64 (ishr .u64 v (i : Int)) 1) == 1) = (v.toNat / 2 ^ i % 2 == 1) := by
  have := shr_u64 (x := v.toNat) (k := i) hi
  rw [Int.toNat_of_nonneg h0] at this
  have hle : v.toNat / 2 ^ i ≤ v.toNat := Nat.div_le_self _ _
  rw [this, and1_u64 (Int.natCast_nonneg _) (by omega)]
  have : ((v.toNat / 2 ^ i : Nat) : Int) % 2 = ((v.toNat / 2 ^ i % 2 : Nat) : Int) := by omega
  rw [this]
  rcases Nat.mod_two_eq_zero_or_one (v.toNat / 2 ^ i) with h | h <;> simp [h]
theorem C58 {w : World} {o : Addr} {l : List Bool} {fp : Nat → Prop} {v n : Int} (h : Wf w o l fp) (hl : l.length ≤ 1000000) (hv0 : 0 ≤ v) (hv1 : v < 18446744073709551616) :
    Calls Try.prog 58 #[.pointer (some o), .int .u64 v, .int .i64 n] w (fun e w1 => e = .returned (.tuple #[] : Value) ∧ (∃ fp', Wf w1 o (l ++ bo v.toNat (cl n)) fp' ∧ Gr fp w w1 ∧ ∀ k, fp' k → fp k ∨ w.heap.size ≤ k)) := by
  refine F58_sound (some o) v n (fun w1 => ∃ fp', Wf w1 o (l ++ bo v.toNat (cl n)) fp' ∧ Gr fp w w1 ∧ ∀ k, fp' k → fp k ∨ w.heap.size ≤ k) w ?_
  unfold F58
  refine C72.mono ?_
  rintro _ w1 ⟨_, rfl, rfl, rfl⟩
  have hN : cl n ≤ 64 := by unfold cl; omega
  generalize cl n = N at hN ⊢
  have hlt : ∀ k, fp k → k < w1.heap.size := by obtain ⟨s, z⟩ := h; exact z.lt
  refine ⟨_, rfl, ?_⟩
  rw [w_i64 (by omega) (by omega)]
  refine ⟨fun i wr => ∃ (r : Nat) (fp' : Nat → Prop), i = (r : Int) - 1 ∧ r ≤ N ∧ Wf wr o (l ++ bo (v.toNat / 2 ^ r) (N - r)) fp' ∧ Gr fp w1 wr ∧ (∀ k, fp' k → fp k ∨ w1.heap.size ≤ k), fun i _ => (i + 1).toNat,
    ⟨N, fp, rfl, by omega, by simpa [bo] using h, Gr.refl _ _, fun k hk => .inl hk⟩, ?_⟩
  rintro _ wr ⟨r, fq, rfl, hr, ⟨s, z⟩, hg, hfq⟩
  unfold F58_l1
  refine ⟨fun h0 => ?_, fun h0 => ?_⟩
  · rintro _ rfl
    have z' : Ob Value.bool 4 none wr.drew o s _ fq := z.keep (S := fun _ => False) (gr_drewN (Gr.refl _ _) 1) (fun _ _ h => h)
    have g' : Gr fp w1 wr.drew := gr_drewN hg 1
    refine ⟨o, rfl, s, z'.c0, by omega, ?_⟩
    rw [show ((r : Int) - 1) = ((r - 1 : Nat) : Int) by omega, bit_u64 hv0 hv1 (by omega)]
    rintro _ rfl
    obtain ⟨s2, w2, hrun, hc, z2, g2, hsz⟩ := z'.push ty111 bolone (v.toNat / 2 ^ (r - 1) % 2 == 1) (by rw [List.length_append, bo_len]; omega)
    refine ⟨s2, w2, hrun, o, rfl, hc, ?_⟩
    rintro _ rfl
    rw [← bo_one, put_row l v.toNat N r 1 hr (by omega)] at z2
    have sub : ∀ i, i < w1.heap.size → fq i → fp i := fun i hi hf => by rcases hfq i hf with h | h; exact h; omega
    rw [w_i64 (by omega) (by omega)]
    refine ⟨⟨r - 1, _, by omega, by omega, ⟨s2, z2⟩, g'.trans g2 sub, ?_⟩, by show (((r - 1 : Nat) : Int) - 1 + 1).toNat < (((r - 1 : Nat) : Int) + 1).toNat; omega⟩
    have := g'.size
    intro k hk
    rcases hk with hk | hk
    · exact hfq k hk
    · right; omega
  · have : r = 0 := by omega
    subst this
    simp only [Nat.pow_zero, Nat.div_one, Nat.sub_zero] at z
    exact ⟨fq, ⟨s, z⟩, hg, hfq⟩
theorem C59 {w : World} {o : Addr} {l : List Bool} {fp : Nat → Prop} {n : Int} (h : Wf w o l fp) :
    Calls Try.prog 59 #[.pointer (some o), .int .i64 n] w (fun e w1 => e = .returned (.tuple #[] : Value) ∧ (Wf w1 o (l.take n.toNat) fp ∧ Gr fp w w1)) := by
  refine F59_sound (some o) n (fun w1 => Wf w1 o (l.take n.toNat) fp ∧ Gr fp w w1) w ?_
  unfold F59
  obtain ⟨s, z⟩ := h
  rintro _ rfl
  have z' : Ob Value.bool 4 none w.drew o s _ fp := z.keep (S := fun _ => False) (gr_drewN (Gr.refl _ _) 1) (fun _ _ h => h)
  have g' : Gr fp w w.drew := gr_drewN (Gr.refl _ _) 1
  have hln := z.own.len
  have hcap := z.own.rd.2.1
  obtain ⟨hc, z2, g2⟩ := z'.cutTo (min n.toNat l.length) (by omega)
  refine ⟨o, rfl, s, z'.c0, o, rfl, s, z'.c0, ⟨s.a, min n.toNat l.length, s.c⟩, cut_hi ty111 s _ (min n.toNat l.length) ?_ (by omega), o, rfl, hc, ?_⟩
  · split <;> split <;> omega
  rintro _ rfl
  have e : l.take (min n.toNat l.length) = l.take n.toNat := by
    rw [← List.take_take, List.take_length]
  rw [e] at z2
  exact ⟨⟨_, z2⟩, g'.trans g2 (fun _ _ h => h)⟩
theorem C60 {w : World} {o : Addr} {l : List Bool} {fp : Nat → Prop} (h : Wf w o l fp) : Calls Try.prog 60 #[.pointer (some o)] w (fun e w1 => ∃ (r : Int), e = .returned (.int .i64 r : Value) ∧ (r = l.length ∧ w1 = w)) := by
  refine F60_sound (some o) (fun r w1 => r = l.length ∧ w1 = w) w ?_
  unfold F60
  obtain ⟨s, z⟩ := h
  have := z.own.len
  exact ⟨o, rfl, s, z.c0, by omega, rfl⟩

def padN (p : List Bool) (k : Nat) : Nat := num (p.take k) * 2 ^ (k - (p.take k).length)
theorem padN_in {p : List Bool} {k : Nat} (h : k < p.length) : padN p (k + 1) = 2 * padN p k + (p[k]).toNat := by
  unfold padN
  have h1 : (p.take k).length = k := by simp; omega
  have h2 : (p.take (k + 1)).length = k + 1 := by simp; omega
  rw [h1, h2, ← List.take_append_getElem h, num_snoc]; simp
theorem padN_out {p : List Bool} {k : Nat} (h : p.length ≤ k) : padN p (k + 1) = 2 * padN p k := by
  unfold padN
  rw [List.take_of_length_le h, List.take_of_length_le (by omega), show k + 1 - p.length = k - p.length + 1 by omega, Nat.pow_succ]
  rw [← Nat.mul_assoc, Nat.mul_comm _ 2]
theorem padN_lt (p : List Bool) (k : Nat) : padN p k < 2 ^ k := by
  have h := num_lt (p.take k)
  have h8 : (p.take k).length ≤ k := by simp; omega
  unfold padN
  have := Nat.mul_lt_mul_of_pos_right h (Nat.two_pow_pos (k - (p.take k).length))
  rw [← Nat.pow_add, Nat.add_sub_cancel' h8] at this
  exact this
theorem C61 {w : World} {o : Addr} {l : List Bool} {fp : Nat → Prop} (h : Wf w o l fp) (hl : l.length ≤ 1000000) : Calls Try.prog 61 #[.pointer (some o)] w (fun e w1 => ∃ (r0 : Sl), e = .returned (.slice r0.a r0.n r0.c : Value) ∧ (Own B8 5 w.heap.size w1 r0 (pk l) ∧ Below w.heap.size w w1)) := by
  refine F61_sound (some o) (fun r0 w1 => Own B8 5 w.heap.size w1 r0 (pk l) ∧ Below w.heap.size w w1) w ?_
  unfold F61
  obtain ⟨s, z⟩ := h
  have hln := z.own.len
  refine ⟨fun st wr => ∃ j : Nat, st.2 = ((8 * j : Nat) : Int) ∧ 8 * j ≤ l.length + 7 ∧ Own B8 5 w.heap.size wr st.1 ((List.range j).map (fun j => (byteAt l j : Int))) ∧ Below w.heap.size w wr, fun st _ => (l.length + 8 - st.2).toNat,
    ⟨0, rfl, by omega, Own.nil, Below.refl _ _⟩, ?_⟩
  rintro ⟨out, _⟩ wr ⟨j, rfl, hj, ho, hb⟩
  unfold F61_l1
  have z1 : Ob Value.bool 4 none wr o s l fp := z.keep (S := fun _ => False) (Gr.below hb) (fun _ _ h => h)
  refine ⟨o, rfl, s, z1.c0, fun hlt => ?_, fun hge => ?_⟩
  · have hlt' : 8 * j < l.length := by omega
    refine ⟨fun st wq => ∃ k : Nat, k ≤ 8 ∧ st = ((padN (l.drop (8 * j)) k : Int), (k : Int)) ∧ wr = wq, fun st _ => (8 - st.2).toNat, ⟨0, by omega, by simp [padN, num], rfl⟩, ?_⟩
    rintro _ _ ⟨k, hk, rfl, rfl⟩
    unfold F61_l2
    have hp := padN_lt (l.drop (8 * j)) k
    refine ⟨fun h8 => ?_, fun h8 => ?_⟩
    · have hk8 : k < 8 := by omega
      have hp7 : 2 ^ k ≤ 2 ^ 7 := Nat.pow_le_pow_right (by omega) (by omega)
      have hj3 : ∀ c : Int, c = (padN (l.drop (8 * j)) (k + 1) : Int) → F61_j3 (k : Int) (fun s' w' => (∃ k : Nat, k ≤ 8 ∧ s' = ((padN (l.drop (8 * j)) k : Int), (k : Int)) ∧ wr = w') ∧ (8 - s'.2).toNat < (8 - (k : Int)).toNat) c wr := by
        rintro _ rfl
        unfold F61_j3
        rw [w_i64 (by omega) (by omega)]
        exact ⟨⟨k + 1, by omega, rfl, rfl⟩, by show (8 - ((k : Int) + 1)).toNat < _; omega⟩
      have e1 : IntKind.i64.wrap (((8 * j : Nat) : Int) + (k : Int)) = ((8 * j + k : Nat) : Int) := by rw [w_i64 (by omega) (by omega)]; rfl
      simp only [e1]
      rw [w_i64 (n := 2 * (padN (l.drop (8 * j)) k : Int)) (by omega) (by omega)]
      refine ⟨o, rfl, s, z1.c0, fun hin => ?_, fun hout => ?_⟩
      · obtain ⟨a, ha, hcell⟩ := z1.own.rd.at (8 * j + k) (by omega)
        have hkp : k < (l.drop (8 * j)).length := by simp; omega
        have hget : (l.drop (8 * j))[k] = l[8 * j + k] := by simp
        have hin' := padN_in hkp
        rw [hget] at hin'
        refine ⟨o, rfl, s, z1.c0, by omega, by omega, a, ha, _, hcell, fun ht => ?_, fun hf => ?_⟩
        · rw [w_i64 (by omega) (by omega)]
          refine hj3 _ ?_
          rw [hin', ht]; simp
        · refine hj3 _ ?_
          rw [hin', hf]; simp
      · refine hj3 _ ?_
        rw [padN_out (by simp; omega)]; simp
    · have : k = 8 := by omega
      subst this
      have hbl := byteAt_lt l j
      have e8 : padN (l.drop (8 * j)) 8 = byteAt l j := rfl
      rw [e8, w_u8 (by omega) (by omega)]
      rintro _ rfl
      obtain ⟨s2, w2, h1, h2⟩ := ap_one (ty := 22) (w := wr) ty22 b8one ho (byteAt l j : Int) hb.size (by simp; omega)
      refine ⟨s2, w2, h1, ?_⟩
      rw [w_i64 (by omega) (by omega)]
      refine ⟨⟨j + 1, by show ((8 * j : Nat) : Int) + 8 = _; omega, by omega, ?_, h2.below ho hb.size hb⟩, by show ((l.length : Int) + 8 - (((8 * j : Nat) : Int) + 8)).toNat < ((l.length : Int) + 8 - ((8 * j : Nat) : Int)).toNat; omega⟩
      have := h2.own
      rw [List.range_succ, List.map_append]
      exact this
  · have : j = (l.length + 7) / 8 := by omega
    subst this
    exact ⟨ho, hb⟩
end Go.Proofs.Ythhcaaellhdkiaa
