/- The CRC of both sides. -/
import Derived.Test.YtjgijifankaglaaRS
import Derived.Test.YtjgijifankaglaaSL
import Derived.Test.YtjgijifankaglaaGSa
namespace Go.Proofs.Ytjgijifankaglaa
open Go Go.RowKit Go.Proofs.Ytjgijifankaglaa.SX
set_option linter.unusedVariables false

theorem fd1 (m : Nat) : Int.fdiv (m : Int) (2 ^ 1) = ((m >>> 1 : Nat) : Int) := by
  rw [fd _ (by omega), Nat.shiftRight_eq_div_pow]; rfl
theorem fd8 (m : Nat) : Int.fdiv (m : Int) (2 ^ 8) = ((m / 256 : Nat) : Int) := by
  rw [fd _ (by omega)]; rfl
theorem and1 {m : Nat} (hm : m < 4294967296) : ibits .and .u32 (m : Int) 1 = ((m % 2 : Nat) : Int) := by
  have := iba (a := m) (b := 1) hm (by omega)
  rw [Nat.and_one_is_mod] at this
  exact this
theorem step_odd {m : Nat} (hm : m < 4294967296) (h : m % 2 = 1) : ibits .xor .u32 (Int.fdiv (m : Int) (2 ^ 1)) 3988292384 = ((stepN m : Nat) : Int) := by
  rw [fd1]
  have := ibx (a := m >>> 1) (b := 3988292384) (by rw [Nat.shiftRight_eq_div_pow]; omega) (by omega)
  unfold stepN
  rw [if_pos h]
  exact this
theorem step_even {m : Nat} (h : ¬ m % 2 = 1) : Int.fdiv (m : Int) (2 ^ 1) = ((stepN m : Nat) : Int) := by
  rw [fd1, stepN_even (by omega)]
def tabV : Array Value := ((List.range 256).map fun i => Value.int .u32 ((steps 8 i : Nat) : Int)).toArray
theorem tabV_size : tabV.size = 256 := by unfold tabV; simp
theorem tabV_at {i : Nat} (h : i < 256) : tabV[i]? = some (.int .u32 ((steps 8 i : Nat) : Int)) := by
  unfold tabV
  simp [h]
theorem C75 (w : World) : Calls Try.prog 75 #[] w (fun e w1 => ∃ (r0 : Value), e = .returned r0 ∧ (r0 = .agg tabV ∧ Below w.heap.size w w1)) := by
  refine F75_sound (fun r0 w1 => r0 = .agg tabV ∧ Below w.heap.size w w1) w ?_
  unfold F75
  intro w1 e
  obtain ⟨z0, h0, z0s⟩ : ∃ z, w1.heap[w.heap.size]? = some (.cells z 91 (0, 0)) ∧ z.size = 256 := ⟨_, by rw [e]; exact heap_alloc_new w _, by kernel_rfl⟩
  have b1 : Below w.heap.size w w1 := by rw [e]; exact below_row _ _
  clear e
  intro w2 e
  obtain ⟨z1, h1, z1s⟩ : ∃ z, w2.heap[w1.heap.size]? = some (.cells z 91 (0, 0)) ∧ z.size = 256 := ⟨_, by rw [e]; exact heap_alloc_new w1 _, by kernel_rfl⟩
  have b2 : Below w1.heap.size w1 w2 := by rw [e]; exact below_row _ _
  clear e
  have hlt := row_lt h0
  have h0 := (Gr.below (S := fun _ => False) b2).blk h0 (fun h => h)
  have B := b1.trans (b2.mono b1.size)
  have hsz := b1.size
  refine ⟨fun st wr => ∃ i : Nat, ∃ cs, st = (i : Int) ∧ i ≤ 256 ∧ wr.heap[w1.heap.size]? = some (.cells cs 91 (0, 0)) ∧ cs.size = 256 ∧ (∀ j, j < i → cs[j]? = some (.int .u32 ((steps 8 j : Nat) : Int))) ∧ wr.heap[w.heap.size]? = some (.cells z0 91 (0, 0)) ∧ Below w.heap.size w wr, fun st _ => (256 - st).toNat, ⟨0, z1, rfl, by omega, h1, z1s, fun j hj => by omega, h0, B⟩, ?_⟩
  rintro _ wr ⟨i, cs, rfl, hi, hc, hcs, hset, hz, hb⟩
  unfold F75_l1
  refine ⟨fun hlt256 => ?_, fun hge => ?_⟩
  · refine ⟨fun st wq => wq = wr ∧ ∃ m k : Nat, st = ((m : Int), (k : Int)) ∧ k ≤ 8 ∧ m < 4294967296 ∧ steps (8 - k) m = steps 8 i, fun st _ => (8 - st.2).toNat, ⟨rfl, i, 0, by rw [w_u32 (by omega) (by omega)]; rfl, by omega, by omega, rfl⟩, ?_⟩
    rintro _ wr ⟨rfl, m, k, rfl, hk, hm, hst⟩
    unfold F75_l2 F75_j3
    dsimp only
    rw [and1 hm]
    refine ⟨fun hk8 => ?_, fun hk8 => ?_⟩
    · have e : 8 - k = (8 - (k + 1)) + 1 := by omega
      rw [e, steps] at hst
      rw [w_i64 (by omega) (by omega)]
      refine ⟨fun ho => ?_, fun ho => ?_⟩
      · have ho : m % 2 = 1 := by omega
        rw [step_odd hm ho]
        exact ⟨⟨rfl, stepN m, k + 1, rfl, by omega, stepN_lt hm, hst⟩, by (try dsimp only); omega⟩
      · have ho : ¬ m % 2 = 1 := by omega
        rw [step_even ho]
        exact ⟨⟨rfl, stepN m, k + 1, rfl, by omega, stepN_lt hm, hst⟩, by (try dsimp only); omega⟩
    · have hk' : 8 - k = 0 := by omega
      rw [hk', steps] at hst
      subst hst
      refine ⟨by omega, hlt256, ?_⟩
      rw [Int.toNat_natCast, add_lit]
      refine ⟨row_has hc (by omega), ?_⟩
      intro w9 e
      have q := gr_set wr ⟨w1.heap.size, i, none⟩ (.int .u32 ((steps 8 i : Nat) : Int))
      have hc' := row_set hc (j := i) (.int .u32 ((steps 8 i : Nat) : Int))
      rw [← e] at q hc'
      rw [w_i64 (by omega) (by omega)]
      refine ⟨⟨i + 1, _, by omega, by omega, hc', by simpa using hcs, fun j hj => ?_, q.blk hz (by (try dsimp only); omega), hb.trans (q.toBelow hb.size (fun k hk => by (try dsimp only at hk); omega))⟩, by (try dsimp only); omega⟩
      by_cases hji : j = i
      · subst hji
        rw [Array.getElem?_setIfInBounds_self_of_lt (by omega)]
      · rw [Array.getElem?_setIfInBounds_ne (by omega)]
        exact hset j (by omega)
  · have hi256 : i = 256 := by omega
    subst hi256
    have hcv : cs = tabV := by
      apply Array.ext_getElem?
      intro j
      by_cases hj : j < 256
      · rw [hset j hj, tabV_at hj]
      · rw [Array.getElem?_eq_none (by omega), Array.getElem?_eq_none (by rw [tabV_size]; omega)]
    subst hcv
    have hT : aggT Try.prog 91 = true ∧ (Try.prog.info? 91).map (·.size) = some 256 := by constructor <;> kernel_rfl
    obtain ⟨w12, r12, h12, q12⟩ := store_all (P := Try.prog) (T := 91) (k := 256) (vs := tabV) hz hT.2 tabV_size z0s (by
      intro u hu
      unfold tabV at hu
      simp at hu
      obtain ⟨j, _, rfl⟩ := hu
      rfl)
    exact ⟨_, load_row hc hT tabV_size, w12, r12, _, load_row h12 hT tabV_size, rfl, hb.trans (q12.toBelow hb.size (fun k hk => by (try dsimp only at hk); omega))⟩
section
variable {w : World} {b : Sl} {bs : List Int}
def nats (bs : List Int) : List Nat := bs.map Int.toNat
theorem nats_at {bs : List Int} (hb : bys bs) {i : Nat} (hi : i < bs.length) : ∃ c : Nat, c < 256 ∧ bs[i] = (c : Int) ∧ (nats bs).drop i = c :: (nats bs).drop (i + 1) := by
  have h := hb bs[i] (List.getElem_mem hi)
  refine ⟨bs[i].toNat, by omega, by omega, ?_⟩
  rw [List.drop_eq_getElem_cons (by unfold nats; simpa using hi)]
  unfold nats
  simp
theorem nats_len {bs : List Int} : (nats bs).length = bs.length := by unfold nats; simp
theorem inv_int {m : Nat} (hm : m < 4294967296) : ibits .xor .u32 4294967295 (m : Int) = ((4294967295 ^^^ m : Nat) : Int) := ibx (a := 4294967295) (by omega) hm
theorem C40 (h : Rd B8 w b bs) (hbs : bys bs) : Calls Try.prog 40 #[.slice b.a b.n b.c] w (fun e w1 => ∃ (r0 : Int), e = .returned (.int .u32 r0) ∧ (r0 = ((crcS (nats bs) : Nat) : Int) ∧ Below w.heap.size w w1)) := by
  refine F40_sound b (fun r0 w1 => r0 = ((crcS (nats bs) : Nat) : Int) ∧ Below w.heap.size w w1) w ?_
  unfold F40
  have hn := h.1
  have hm : b.n ≤ 9223372036854775807 := Nat.le_trans h.2.1 (by have := h.2.2.1; simpa [maxLen] using this)
  refine (C75 w).mono ?_
  rintro _ w3 ⟨_, rfl, rfl, b3⟩
  refine ⟨_, rfl, ?_⟩
  intro w4 e
  obtain ⟨z0, h0, z0s⟩ : ∃ z, w4.heap[w3.heap.size]? = some (.cells z 91 (0, 0)) ∧ z.size = 256 := ⟨_, by rw [e]; exact heap_alloc_new w3 _, by kernel_rfl⟩
  have b4 : Below w3.heap.size w3 w4 := by rw [e]; exact below_row _ _
  clear e
  obtain ⟨w5, r5, h5, q5⟩ := store_all (P := Try.prog) (T := 91) (k := 256) (vs := tabV) h0 (by kernel_rfl) tabV_size z0s (by
    intro u hu
    unfold tabV at hu
    simp at hu
    obtain ⟨j, _, rfl⟩ := hu
    rfl)
  have B := b3.trans (b4.mono b3.size)
  have hz := b3.size
  have B := B.trans (q5.toBelow B.size (fun k hk => by (try dsimp only at hk); omega))
  refine ⟨w5, r5, ?_⟩
  refine ⟨fun st wr => wr = w5 ∧ ∃ m i : Nat, st = ((m : Int), (i : Int)) ∧ i ≤ bs.length ∧ m < 4294967296 ∧ 4294967295 ^^^ ((nats bs).drop i).foldl (fun n b => steps 8 (n ^^^ b)) m = crcS (nats bs), fun st _ => (bs.length - st.2).toNat, ⟨rfl, 4294967295, 0, rfl, by omega, by omega, rfl⟩, ?_⟩
  rintro _ _ ⟨rfl, m, i, rfl, hi, hmm, hf⟩
  rename_i wr
  unfold F40_l1
  refine ⟨fun hlt => ?_, fun hge => ?_⟩
  · have hix : i < bs.length := by omega
    obtain ⟨a, ha, hc⟩ := (h.below B).at i hix
    obtain ⟨c, hc256, hbc, hd⟩ := nats_at hbs hix
    rw [hd, List.foldl_cons, crc_table m c hc256] at hf
    have hidx : m % 256 ^^^ c < 256 := Nat.xor_lt_two_pow (n := 8) (by omega) hc256
    have hx : ibits .xor .u8 (IntKind.u8.wrap (m : Int)) (c : Int) = ((m % 256 ^^^ c : Nat) : Int) := by
      rw [wm_u8, show (m : Int) % 256 = ((m % 256 : Nat) : Int) by omega]
      exact ibx8 (by omega) hc256
    refine ⟨by omega, hlt, a, ha, (c : Int), by rw [Int.toNat_natCast, hc, hbc], ?_⟩
    rw [hx, Int.toNat_natCast, add_lit, row_get h5, tabV_at hidx, fd8]
    have hs8 : steps 8 (m % 256 ^^^ c) < 4294967296 := steps_lt 8 (by omega)
    refine ⟨by omega, by omega, _, rfl, ?_⟩
    rw [ibx (by omega) hs8, w_i64 (by omega) (by omega)]
    exact ⟨⟨rfl, _, i + 1, rfl, by omega, Nat.xor_lt_two_pow (n := 32) (by omega) hs8, hf⟩, by (try dsimp only); omega⟩
  · have : i = bs.length := by omega
    subst this
    rw [List.drop_of_length_le (by rw [nats_len]; exact Nat.le_refl _), List.foldl_nil] at hf
    rw [inv_int hmm, hf]
    exact ⟨rfl, B⟩
theorem C43 (h : Rd B8 w b bs) (hbs : bys bs) : Calls Try.prog 43 #[.slice b.a b.n b.c] w (fun e w1 => ∃ (r0 : Int), e = .returned (.int .u32 r0) ∧ (r0 = ((crcS (nats bs) : Nat) : Int) ∧ w1 = w)) := by
  refine F43_sound b (fun r0 w1 => r0 = ((crcS (nats bs) : Nat) : Int) ∧ w1 = w) w ?_
  unfold F43
  have hn := h.1
  have hm : b.n ≤ 9223372036854775807 := Nat.le_trans h.2.1 (by have := h.2.2.1; simpa [maxLen] using this)
  refine ⟨fun st wr => wr = w ∧ ∃ m i : Nat, st = ((m : Int), (i : Int)) ∧ i ≤ bs.length ∧ m < 4294967296 ∧ 4294967295 ^^^ ((nats bs).drop i).foldl (fun n b => steps 8 (n ^^^ b)) m = crcS (nats bs), fun st _ => (bs.length - st.2).toNat, ⟨rfl, 4294967295, 0, rfl, by omega, by omega, rfl⟩, ?_⟩
  rintro _ _ ⟨rfl, m, i, rfl, hi, hmm, hf⟩
  rename_i wr
  unfold F43_l1
  refine ⟨fun hlt => ?_, fun hge => ?_⟩
  · have hix : i < bs.length := by omega
    obtain ⟨a, ha, hc⟩ := h.at i hix
    obtain ⟨c, hc256, hbc, hd⟩ := nats_at hbs hix
    rw [hd, List.foldl_cons] at hf
    refine ⟨by omega, hlt, a, ha, (c : Int), by rw [Int.toNat_natCast, hc, hbc], ?_⟩
    have hmc : m ^^^ c < 4294967296 := Nat.xor_lt_two_pow (n := 32) hmm (by omega)
    rw [w_u32 (n := (c : Int)) (by omega) (by omega), ibx hmm (by omega)]
    refine ⟨fun st wq => wq = wr ∧ ∃ m' k : Nat, st = ((m' : Int), (k : Int)) ∧ k ≤ 8 ∧ m' < 4294967296 ∧ steps (8 - k) m' = steps 8 (m ^^^ c), fun st _ => (8 - st.2).toNat, ⟨rfl, _, 0, rfl, by omega, hmc, rfl⟩, ?_⟩
    rintro _ _ ⟨rfl, m', k, rfl, hk, hm', hst⟩
    unfold F43_l2 F43_j3
    dsimp only
    rw [and1 hm']
    refine ⟨fun hk8 => ?_, fun hk8 => ?_⟩
    · have e : 8 - k = (8 - (k + 1)) + 1 := by omega
      rw [e, steps] at hst
      rw [w_i64 (by omega) (by omega)]
      refine ⟨fun ho => ?_, fun ho => ?_⟩
      · have ho : m' % 2 = 1 := by omega
        rw [step_odd hm' ho]
        exact ⟨⟨rfl, stepN m', k + 1, rfl, by omega, stepN_lt hm', hst⟩, by (try dsimp only); omega⟩
      · have ho : ¬ m' % 2 = 1 := by omega
        rw [step_even ho]
        exact ⟨⟨rfl, stepN m', k + 1, rfl, by omega, stepN_lt hm', hst⟩, by (try dsimp only); omega⟩
    · have hk' : 8 - k = 0 := by omega
      rw [hk', steps] at hst
      subst hst
      rw [w_i64 (by omega) (by omega)]
      exact ⟨⟨rfl, _, i + 1, rfl, by omega, hm', hf⟩, by (try dsimp only); omega⟩
  · have : i = bs.length := by omega
    subst this
    rw [List.drop_of_length_le (by rw [nats_len]; exact Nat.le_refl _), List.foldl_nil] at hf
    rw [inv_int hmm, hf]
    exact ⟨rfl, rfl⟩
end
end Go.Proofs.Ytjgijifankaglaa
