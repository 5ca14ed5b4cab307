/- The document's own reader: what each call does. -/
import Derived.Test.YthhcaaellhdkiaaCG
namespace Go.Proofs.Ythhcaaellhdkiaa
open Go Go.RowKit Go.Proofs.Ythhcaaellhdkiaa.SX
set_option linter.unusedVariables false

theorem gr_setsize {S : Nat → Prop} {w w' : World} (h : Gr S w w') : w.heap.size ≤ w'.heap.size := h.size
theorem bit_u8 {x i : Nat} (hx : x < 256) (hi : i ≤ 8) : ((ibits .and .u8 (ishr .u8 (x : Int) (i : Int)) 1) == 1) = (x / 2 ^ i % 2 == 1) := by
  have hle : x / 2 ^ i ≤ x := Nat.div_le_self _ _
  have h1 : IntKind.u8.wrap (ishl .u8 1 ((1 : Nat) : Int) - 1) = 1 := by decide
  have := mask_u8 (x := x / 2 ^ i) (k := 1) (by omega) (by omega)
  rw [h1] at this
  rw [shr_u8 hi, this, Nat.pow_one]
  rcases Nat.mod_two_eq_zero_or_one (x / 2 ^ i) with h | h <;> simp [h]
theorem unp_snoc (xs : List Int) (x : Int) : unp (xs ++ [x]) = unp xs ++ bo x.toNat 8 := by
  induction xs with
  | nil => simp [unp]
  | cons y ys ih => simp [unp, ih]
theorem C38 {b : Sl} {xs : List Int} {w : World} (hr : Rd B8 w b xs) (hx : bys xs) (hl : xs.length ≤ 1000000) :
    Calls Try.prog 38 #[.slice b.a b.n b.c] w (fun e w1 => ∃ (r : Option Addr), e = .returned (.pointer r : Value) ∧ (∃ o s, r = some o ∧ Ob Value.bool 4 (some (.int .i64 0)) w1 o s (unp xs) (fun k => w.heap.size ≤ k ∧ k < w1.heap.size) ∧ Below w.heap.size w w1)) := by
  refine F38_sound b (fun r w1 => ∃ o s, r = some o ∧ Ob Value.bool 4 (some (.int .i64 0)) w1 o s (unp xs) (fun k => w.heap.size ≤ k ∧ k < w1.heap.size) ∧ Below w.heap.size w w1) w ?_
  unfold F38
  have hbn := hr.1
  rintro _ rfl
  have b1 : Below w.heap.size w (w.alloc (.cells #[.slice none 0 0, .int .i64 0] 117)) := (Below.refl _ _).alloc (Nat.le_refl _) _
  have z0 : Ob Value.bool 4 (some (.int .i64 0)) (w.alloc (.cells #[.slice none 0 0, .int .i64 0] 117)) ⟨w.heap.size, 0, none⟩ ⟨none, 0, 0⟩ [] (fun k => w.heap.size ≤ k ∧ k < (w.alloc (.cells #[.slice none 0 0, .int .i64 0] 117)).heap.size) := by
    refine ⟨?_, by simp, ?_, Own.nil, fun b hb => (nomatch hb), by simp, fun k hk => hk.2⟩
    · exact row_cell w #[.slice none 0 0, .int .i64 0] 117 0 (by simp) (Below.refl _ _)
    · intro v hv; cases hv
      exact ⟨row_cell w #[.slice none 0 0, .int .i64 0] 117 1 (by simp) (Below.refl _ _), by rw [add_lit]; simp⟩
  refine ⟨fun i wr => ∃ (j : Nat) (s : Sl), i = (j : Int) ∧ j ≤ xs.length ∧ Ob Value.bool 4 (some (.int .i64 0)) wr ⟨w.heap.size, 0, none⟩ s (unp (xs.take j)) (fun k => w.heap.size ≤ k ∧ k < wr.heap.size) ∧ Below w.heap.size w wr, fun i _ => (xs.length - i).toNat,
    ⟨0, _, rfl, by omega, z0, b1⟩, ?_⟩
  rintro _ wr ⟨j, s, rfl, hj, z, hb⟩
  unfold F38_l1
  refine ⟨fun hlt => ?_, fun hge => ?_⟩
  · have hjl : j < xs.length := by omega
    have hxj := hx xs[j] (List.getElem_mem hjl)
    refine ⟨fun k wq => ∃ (r : Nat) (s : Sl), k = (r : Int) - 1 ∧ r ≤ 8 ∧ Ob Value.bool 4 (some (.int .i64 0)) wq ⟨w.heap.size, 0, none⟩ s (unp (xs.take j) ++ bo (xs[j].toNat / 2 ^ r) (8 - r)) (fun k => w.heap.size ≤ k ∧ k < wq.heap.size) ∧ Below w.heap.size w wq, fun k _ => (k + 1).toNat,
      ⟨8, s, rfl, by omega, by simpa [bo] using z, hb⟩, ?_⟩
    rintro _ wq ⟨r, s, rfl, hr8, z, hb⟩
    unfold F38_l2
    refine ⟨fun h0 => ?_, fun h0 => ?_⟩
    · rintro _ rfl
      have z' : Ob Value.bool 4 (some (.int .i64 0)) wq.drew ⟨w.heap.size, 0, none⟩ s _ _ := z.keep (S := fun _ => False) (gr_drewN (Gr.refl _ _) 1) (fun _ _ h => h)
      have b' : Below w.heap.size w wq.drew := ⟨hb.os, hb.tape, hb.output, hb.size, hb.block⟩
      obtain ⟨a, ha, hcell⟩ := (hr.below b').at j hjl
      obtain ⟨s2, w2, hrun, hc, z2, g2, hsz⟩ := z'.push ty111 bolone (xs[j].toNat / 2 ^ (r - 1) % 2 == 1) (by rw [List.length_append, bo_len, unp_len, List.length_take]; omega)
      have hbit := bit_u8 (x := xs[j].toNat) (i := r - 1) (by omega) (by omega)
      rw [Int.toNat_of_nonneg hxj.1] at hbit
      rw [show ((r : Int) - 1) = ((r - 1 : Nat) : Int) by omega]
      refine ⟨s, z'.c0, by omega, by omega, a, ha, _, hcell, by omega, ?_⟩
      rw [hbit]
      rintro _ rfl
      refine ⟨s2, w2, hrun, hc, ?_⟩
      rintro _ rfl
      rw [← bo_one, put_row _ _ 8 r 1 hr8 (by omega)] at z2
      rw [w_i64 (by omega) (by omega)]
      have hsq := b'.size
      have hbb : Below w.heap.size w (w2.setCell ⟨w.heap.size, 0, none⟩ s2.v) := b'.trans (g2.toBelow hsq (fun k hk => hk.1))
      have hsz2 : (w2.setCell (⟨w.heap.size, 0, none⟩ : Addr) s2.v).heap.size = w2.heap.size := by simp [World.setCell]
      refine ⟨⟨r - 1, s2, by omega, by omega, ⟨z2.c0, z2.f0, z2.c1, z2.own, fun b hb => ⟨?_, (z2.bl b hb).2⟩, ?_, fun k hk => hk.2⟩, hbb⟩, by dsimp only; omega⟩
      · have := (z2.bl b hb).1
        rw [hsz2]
        have hdq : wq.drew.heap.size = wq.heap.size := rfl
        rcases this with h | h
        · exact ⟨h.1, by omega⟩
        · exact ⟨by omega, h.2⟩
      · show w.heap.size ≤ w.heap.size ∧ w.heap.size < _
        have := z2.lt _ z2.fo
        exact ⟨Nat.le_refl _, this⟩
    · have : r = 0 := by omega
      subst this
      simp only [Nat.pow_zero, Nat.div_one, Nat.sub_zero] at z
      rw [← unp_snoc, List.take_append_getElem hjl] at z
      rw [w_i64 (by omega) (by omega)]
      exact ⟨⟨j + 1, s, by omega, by omega, z, hb⟩, by dsimp only; omega⟩
  · have : j = xs.length := by omega
    subst this
    rw [List.take_length] at z
    exact ⟨_, s, rfl, z, hb⟩
theorem C42 {w : World} {o : Addr} {s : Sl} {A : Nat} {L : List Bool} {fp : Nat → Prop} (h : Ob Value.bool 4 (some (.int .i64 (A : Int))) w o s L fp) (hA : A ≤ L.length) (hl : L.length ≤ 140737488355328) :
    Calls Try.prog 42 #[.pointer (some o)] w (fun e w1 => ∃ (r : Int), e = .returned (.int .i64 r : Value) ∧ (r = (L.length : Int) - A ∧ ∃ m, w1 = w.drewN m)) := by
  refine F42_sound (some o) (fun r w1 => r = (L.length : Int) - A ∧ ∃ m, w1 = w.drewN m) w ?_
  unfold F42
  have hn := h.own.len
  refine ⟨o, rfl, s, h.c0, o, rfl, A, (h.c1 _ rfl).1, ?_⟩
  rintro _ ⟨m, rfl⟩
  rw [w_i64 (by omega) (by omega)]
  exact ⟨by omega, m, rfl⟩
theorem C40 {w : World} {o : Addr} {s : Sl} {A : Nat} {L : List Bool} {fp : Nat → Prop} {n : Int} (h : Ob Value.bool 4 (some (.int .i64 (A : Int))) w o s L fp) (hA : A ≤ L.length) (hl : L.length ≤ 140737488355328) :
    Calls Try.prog 40 #[.pointer (some o), .int .i64 n] w (fun e w1 => ∃ (r0 : Int), ∃ (r1 : Bool), e = .returned (.tuple #[.int .u64 r0, .bool r1] : Value) ∧ (r0 = (rget L A n).1 ∧ r1 = (rget L A n).2.1 ∧ Ob Value.bool 4 (some (.int .i64 ((rget L A n).2.2 : Int))) w1 o s L fp ∧ Gr fp w w1)) := by
  refine F40_sound (some o) n (fun r0 r1 w1 => r0 = (rget L A n).1 ∧ r1 = (rget L A n).2.1 ∧ Ob Value.bool 4 (some (.int .i64 ((rget L A n).2.2 : Int))) w1 o s L fp ∧ Gr fp w w1) w ?_
  unfold F40
  have hbad : ∀ m, (¬ (0 ≤ n ∧ n ≤ 64 ∧ n ≤ (L.length : Int) - A)) → 0 = ((rget L A n).1 : Int) ∧ false = (rget L A n).2.1 ∧ Ob Value.bool 4 (some (.int .i64 ((rget L A n).2.2 : Int))) (w.drewN m) o s L fp ∧ Gr fp w (w.drewN m) := by
    intro m hz
    unfold rget; rw [if_neg hz]
    exact ⟨rfl, rfl, h.keep (S := fun _ => False) (gr_drewN (Gr.refl _ _) m) (fun _ _ h => h), gr_drewN (Gr.refl _ _) m⟩
  have hn := h.own.len
  refine ⟨fun h0 => ?_, fun h0 => ⟨fun h64 => ?_, fun h64 => ?_⟩⟩
  · rintro _ ⟨m, rfl⟩; exact hbad m (by omega)
  · rintro _ ⟨m, rfl⟩; exact hbad m (by omega)
  refine ⟨o, rfl, s, h.c0, o, rfl, A, (h.c1 _ rfl).1, ?_⟩
  rintro _ ⟨m, rfl⟩
  rw [w_i64 (n := (s.n : Int) - A) (by omega) (by omega)]
  refine ⟨fun hle => hbad m (by omega), fun hle => ?_⟩
  have hok : 0 ≤ n ∧ n ≤ 64 ∧ n ≤ (L.length : Int) - A := by omega
  have h4 : Ob Value.bool 4 (some (.int .i64 (A : Int))) (w.drewN m) o s L fp := h.keep (S := fun _ => False) (gr_drewN (Gr.refl _ _) m) (fun _ _ h => h)
  obtain ⟨N, rfl⟩ : ∃ N : Nat, n = N := ⟨n.toNat, by omega⟩
  unfold rget
  rw [if_pos hok]
  simp only [Int.toNat_natCast]
  refine ⟨fun st wr => ∃ (i : Nat), i ≤ N ∧ st = (((num ((L.drop A).take i) : Nat) : Int), (i : Int)) ∧ Ob Value.bool 4 (some (.int .i64 (A : Int))) wr o s L fp ∧ Gr fp w wr, fun st _ => ((N : Int) - st.2).toNat, ⟨0, by omega, by simp [num], h4, gr_drewN (Gr.refl _ _) m⟩, ?_⟩
  rintro _ wr ⟨i, hi, rfl, hz, hg⟩
  unfold F40_l1
  have hlen : ((L.drop A).take i).length = i := by rw [List.length_take, List.length_drop]; omega
  have hlt := num_lt ((L.drop A).take i)
  rw [hlen] at hlt
  refine ⟨fun hpos => ?_, fun hpos => ?_⟩
  · have hi63 : 2 ^ i ≤ 2 ^ 63 := Nat.pow_le_pow_right (by omega) (by omega)
    have hk : i < (L.drop A).length := by rw [List.length_drop]; omega
    have hstep : num ((L.drop A).take (i + 1)) = 2 * num ((L.drop A).take i) + (L[A + i]'(by rw [List.length_drop] at hk; omega)).toNat := by
      rw [← List.take_append_getElem hk, num_snoc]; simp
    obtain ⟨a, ha, hcell⟩ := hz.own.rd.at (A + i) (by omega)
    have hj : ∀ (v : Int) (mm : Nat), v = (num ((L.drop A).take (i + 1)) : Int) → F40_j2 (i : Int) (fun s' w' => (∃ (i : Nat), i ≤ N ∧ s' = (((num ((L.drop A).take i) : Nat) : Int), (i : Int)) ∧ Ob Value.bool 4 (some (.int .i64 (A : Int))) w' o s L fp ∧ Gr fp w w') ∧ ((N : Int) - s'.2).toNat < ((N : Int) - (i : Int)).toNat) v (wr.drewN mm) := by
      rintro _ mm rfl
      unfold F40_j2
      rw [w_i64 (by omega) (by omega)]
      exact ⟨⟨i + 1, by omega, rfl, hz.keep (S := fun _ => False) (gr_drewN (Gr.refl _ _) mm) (fun _ _ h => h), gr_drewN hg mm⟩, by show ((N : Int) - ((i : Int) + 1)).toNat < _; omega⟩
    have e1 : IntKind.i64.wrap ((A : Int) + (i : Int)) = ((A + i : Nat) : Int) := by rw [w_i64 (by omega) (by omega)]; rfl
    refine ⟨o, rfl, s, hz.c0, o, rfl, A, (hz.c1 _ rfl).1, ?_⟩
    rw [e1]
    refine ⟨by omega, by omega, a, ha, _, hcell, ?_⟩
    rintro _ ⟨mm, rfl⟩
    rw [w_u64 (n := 2 * (num ((L.drop A).take i) : Int)) (by omega) (by omega)]
    refine ⟨fun ht => ?_, fun hf => ?_⟩
    · rw [w_u64 (by omega) (by omega)]
      refine hj _ mm ?_
      rw [hstep, ht]; simp
    · refine hj _ mm ?_
      rw [hstep, hf]; simp
  · have : i = N := by omega
    subst this
    obtain ⟨hc, z2, g2⟩ := hz.second rfl (.int .i64 ((A + i : Nat) : Int))
    refine ⟨o, rfl, A, (hz.c1 _ rfl).1, o, rfl, hc, ?_⟩
    rw [w_i64 (n := (A : Int) + i) (by omega) (by omega), show (A : Int) + (i : Int) = ((A + i : Nat) : Int) by omega]
    rintro _ rfl
    exact ⟨rfl, rfl, z2, hg.trans g2 (fun _ _ h => h)⟩
end Go.Proofs.Ythhcaaellhdkiaa
