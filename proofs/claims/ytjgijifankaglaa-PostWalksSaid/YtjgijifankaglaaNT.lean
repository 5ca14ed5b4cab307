/- Contracts of package num and of its reference, over the printed functions. -/
import Derived.Test.YtjgijifankaglaaNS
namespace Go.Proofs.Ytjgijifankaglaa
open Go Go.RowKit Go.Proofs.Ytjgijifankaglaa.SX
set_option linter.unusedVariables false

theorem F94_spec {b : Sl} {xs : List Int} {room : Nat} {K : Sl → World → Prop} {w : World} (hr : Rd B8 w b xs) (hl : xs.length + room ≤ 140737488355328)
    (hK : ∀ s w', Own B8 5 w.heap.size w' s xs → Below w.heap.size w w' → K s w') : F94 b room K w := by
  unfold F94
  have hn := hr.len
  rw [w_i64 (by omega) (by omega)]
  obtain ⟨h1, h2, h3⟩ := mk_own (w := w) ty22 (enc := B8) (x := 0) rfl (b.n : Int) ((b.n : Int) + room) b.n (b.n + room) rfl (by omega) (by omega) (by omega) (by simp only [maxLen]; omega)
  refine ⟨⟨some ⟨w.heap.size, 0, none⟩, b.n, b.n + room⟩, _, h1, ?_⟩
  obtain ⟨k, w2, h4, h5, h6, h7⟩ := cp_own (ty := 3) ty22 b8one h2 (hr.below h3)
  refine ⟨k, w2, h4, hK _ _ ?_ (h3.grown h7 (by simp) (fun k hk => (h2.blk_ge k hk).1))⟩
  have e : xs.take (List.replicate b.n (0 : Int)).length ++ (List.replicate b.n (0 : Int)).drop xs.length = xs := by
    rw [List.drop_eq_nil_of_le (by simp; omega), List.append_nil, List.take_of_length_le (by simp; omega)]
  rwa [e] at h6
theorem C94 {b : Sl} {xs : List Int} {room : Nat} {K : Sl → World → Prop} {w : World} (hr : Rd B8 w b xs) (hl : xs.length + room ≤ 140737488355328)
    (hK : ∀ s w', Own B8 5 w.heap.size w' s xs → Below w.heap.size w w' → K s w') : Calls Try.prog 94 #[.slice b.a b.n b.c, .int .i64 room] w (fun e w1 => ∃ (r0 : Sl), e = .returned (.slice r0.a r0.n r0.c : Value) ∧ K r0 w1) :=
  F94_sound _ _ _ _ (F94_spec hr hl hK)

theorem F69_spec {b : Sl} {xs : List Int} {n : Nat} {K : Sl → World → Prop} {w : World} (hr : Rd B8 w b xs) (hl : xs.length + 10 ≤ 140737488355328) (hn : n < 18446744073709551616)
    (hK : ∀ s w', Own B8 5 w.heap.size w' s (xs ++ uv n) → Below w.heap.size w w' → K s w') : F69 b n K w := by
  unfold F69
  refine (C94 (room := 10) hr hl (K := fun s w' => Own B8 5 w.heap.size w' s xs ∧ Below w.heap.size w w') (fun s w' h1 h2 => ⟨h1, h2⟩)).mono ?_
  rintro e w1 ⟨s1, rfl, ho1, hb1⟩
  refine ⟨s1, rfl, ?_⟩
  have hlast : ∀ (N : Nat) (ys : List Int) (out : Sl) (wr : World), N < 256 → ys.length ≤ 9 → (ys ++ [(N : Int)] = uv n) → Own B8 5 w.heap.size wr out (xs ++ ys) → Below w.heap.size w wr → F69_j2 K (N : Int) out wr := by
    intro N ys out wr hN hy he ho hb
    unfold F69_j2
    rintro _ rfl
    rw [w_u8 (by omega) (by omega)]
    obtain ⟨s2, w2, h1, h2⟩ := ap_one (ty := 33) (w := wr) ty22 b8one ho (N : Int) hb.size (by simp; omega)
    refine ⟨s2, w2, h1, hK _ _ ?_ (h2.below ho hb.size hb)⟩
    rw [← he, ← List.append_assoc]
    exact h2.own
  refine ⟨fun s wr => ∃ (N k : Nat) (ys : List Int), s.1 = (N : Int) ∧ s.2.2 = (k : Int) ∧ k ≤ 9 ∧ N * 128 ^ k < 18446744073709551616 ∧ ys.length = k ∧ ys ++ uv N = uv n ∧ Own B8 5 w.heap.size wr s.2.1 (xs ++ ys) ∧ Below w.heap.size w wr, fun s _ => 9 - s.2.2.toNat, ⟨n, 0, [], rfl, rfl, by omega, by simpa using hn, rfl, rfl, by simpa using ho1, hb1⟩, ?_⟩
  rintro ⟨_, out, _⟩ wr ⟨N, k, ys, rfl, rfl, hk, hN, hy, he, ho, hb⟩
  dsimp only at ho
  unfold F69_l1
  refine ⟨fun h9 => ⟨fun h128 => ?_, fun h128 => ?_⟩, fun h9 => ?_⟩
  · exact hlast N ys out wr (by omega) (by omega) (by rw [← he, uv_lt (by omega)]) ho hb
  · rintro _ rfl
    have e1 : ibits .or .u8 (IntKind.u8.wrap (N : Int)) 128 = ((N % 128 + 128 : Nat) : Int) := by
      rw [or128 (by rw [wm_u8]; omega) (by rw [wm_u8]; omega), wm_u8]; omega
    rw [e1]
    obtain ⟨s2, w2, h1, h2⟩ := ap_one (ty := 33) (w := wr) ty22 b8one ho ((N % 128 + 128 : Nat) : Int) hb.size (by simp; omega)
    refine ⟨s2, w2, h1, ?_, ?_⟩
    · refine ⟨N / 128, k + 1, ys ++ [((N % 128 + 128 : Nat) : Int)], ?_, ?_, by omega, ?_, by simp [hy], ?_, ?_, h2.below ho hb.size hb⟩
      · show Int.fdiv (N : Int) (2 ^ 7) = _
        rw [fd _ (by decide)]; rfl
      · show IntKind.i64.wrap ((k : Int) + 1) = _
        rw [w_i64 (by omega) (by omega)]; rfl
      · have h3 : N / 128 * 128 ≤ N := Nat.div_mul_le_self N 128
        have h4 : N / 128 * 128 * 128 ^ k ≤ N * 128 ^ k := Nat.mul_le_mul_right _ h3
        rw [Nat.pow_succ]
        have h5 : N / 128 * (128 ^ k * 128) = N / 128 * 128 * 128 ^ k := by rw [Nat.mul_assoc, Nat.mul_comm 128]
        rw [h5]; omega
      · rw [← he, uv_ge (n := N) (by omega)]; simp
      · rw [← List.append_assoc]; exact h2.own
    · show 9 - (IntKind.i64.wrap ((k : Int) + 1)).toNat < 9 - ((k : Int)).toNat
      rw [w_i64 (by omega) (by omega)]; omega
  · have h9' : k = 9 := by omega
    subst h9'
    have h2 : N < 128 := by
      have h2 : (128 : Nat) ^ 9 = 9223372036854775808 := by decide
      rw [h2] at hN; omega
    exact hlast N ys out wr (by omega) (by omega) (by rw [← he, uv_lt h2]) ho hb
theorem C69 {b : Sl} {xs : List Int} {n : Nat} {m : Int} {K : Sl → World → Prop} {w : World} (hm : m = n) (hr : Rd B8 w b xs) (hl : xs.length + 10 ≤ 140737488355328) (hn : n < 18446744073709551616)
    (hK : ∀ s w', Own B8 5 w.heap.size w' s (xs ++ uv n) → Below w.heap.size w w' → K s w') : Calls Try.prog 69 #[.slice b.a b.n b.c, .int .u64 m] w (fun e w1 => ∃ (r0 : Sl), e = .returned (.slice r0.a r0.n r0.c : Value) ∧ K r0 w1) := by
  subst hm; exact F69_sound _ _ _ _ (F69_spec hr hl hn hK)

theorem bys_of {w : World} {s : Sl} {xs : List Int} (hr : Rd B8 w s xs) : True := trivial

theorem F71_spec {b : Sl} {xs : List Int} {K : Int → Int → World → Prop} {w : World} (hr : Rd B8 w b xs) (hb : bys xs) (hK : K (uint xs).1 (uint xs).2 w) : F71 b K w := by
  unfold F71
  have hn := hr.len
  have hc := hr.2.1
  have hm := hr.2.2.1
  simp only [maxLen] at hm
  refine ⟨fun s wr => wr = w ∧ ∃ (N : Int) (k : Nat), s = (N, (k : Int)) ∧ k ≤ 10 ∧ k ≤ xs.length ∧ uintF k N (xs.drop k) = uint xs ∧ (k ≤ 9 → 0 ≤ N ∧ N < 128 ^ k), fun s _ => 10 - s.2.toNat, ⟨rfl, 0, 0, rfl, by omega, by omega, rfl, fun _ => by simp⟩, ?_⟩
  rintro _ wr ⟨rfl, N, k, rfl, hk10, hkl, he, hN⟩
  unfold F71_l1
  have hstop : k = 10 ∨ k = xs.length → F71_j2 K wr := by
    intro h
    unfold F71_j2
    have : uint xs = (0, 0) := by
      rw [← he]
      rcases h with h | h
      · exact uintF_ten _ _ (by omega)
      · rw [h, List.drop_length]; rfl
    rw [this] at hK; exact hK
  refine ⟨fun hlt => ?_, fun hge => hstop ?_⟩
  · have hk9 : k ≤ 9 := by split at hlt <;> omega
    have hkx : k < xs.length := by split at hlt <;> omega
    obtain ⟨a, ha, hcell⟩ := hr.at k hkx
    refine ⟨by omega, by omega, a, ha, xs[k], by simpa using hcell, ?_⟩
    have hx := hb xs[k] (List.getElem_mem hkx)
    obtain ⟨hN0, hN1⟩ := hN hk9
    rw [w_i64 (n := 7 * (k : Int)) (by omega) (by omega), w_i64 (n := (k : Int) + 1) (by omega) (by omega), and127 hx.1 hx.2, w_u64 (n := xs[k] % 128) (by omega) (by omega)]
    have hd : xs.drop k = xs[k] :: xs.drop (k + 1) := (List.drop_eq_getElem_cons hkx)
    rw [hd] at he
    simp only [uintF, if_neg (show ¬ 10 ≤ k by omega)] at he
    have hp7 : (7 * (k : Int)) = ((7 * k : Nat) : Int) := by omega
    refine ⟨by omega, fun h128 => ?_, fun h128 => ?_⟩
    · rw [if_pos h128] at he
      refine ⟨⟨rfl, _, k + 1, by rw [Int.natCast_add]; rfl, by omega, by omega, ?_, ?_⟩, by simp only; omega⟩
      · by_cases h9 : k = 9
        · rw [uintF_ten _ _ (by omega)]; rw [uintF_ten _ _ (by omega)] at he; exact he
        · rw [hp7, or_add_u64 hN0 (by rw [← pow128]; exact hN1) (by omega) ?_ (by omega), ← pow128]
          · exact he
          · rw [← pow128]
            have h1 : (128 : Int) ^ k ≤ 128 ^ 8 := by exact_mod_cast Nat.pow_le_pow_right (n := 128) (by omega) (show k ≤ 8 by omega)
            have h2 : (xs[k] % 128) * 128 ^ k ≤ 127 * 128 ^ k := Int.mul_le_mul_of_nonneg_right (by omega) (Int.le_of_lt (Int.pow_pos (by omega)))
            have h3 : (128 : Int) ^ 8 = 72057594037927936 := by decide
            rw [h3] at h1; omega
      · intro h9
        have hp : (0 : Int) < 128 ^ k := Int.pow_pos (by omega)
        have h1 : (128 : Int) ^ k ≤ 128 ^ 8 := by exact_mod_cast Nat.pow_le_pow_right (n := 128) (by omega) (show k ≤ 8 by omega)
        have h2 : (xs[k] % 128) * 128 ^ k ≤ 127 * 128 ^ k := Int.mul_le_mul_of_nonneg_right (by omega) (Int.le_of_lt hp)
        have h3 : (128 : Int) ^ 8 = 72057594037927936 := by decide
        rw [h3] at h1
        have h4 := Int.mul_nonneg (show (0 : Int) ≤ xs[k] % 128 by omega) (Int.le_of_lt hp)
        rw [hp7, or_add_u64 hN0 (by rw [← pow128]; exact hN1) (by omega) (by rw [← pow128]; omega) (by omega), ← pow128, Int.pow_succ]
        omega
    · rw [if_neg h128] at he
      have hmod : xs[k] % 128 = xs[k] := by omega
      have hfin : ¬ ((0 < k ∧ xs[k] = 0) ∨ (k = 9 ∧ 1 < xs[k])) → K (ibits .or .u64 N (ishl .u64 (xs[k] % 128) (7 * (k : Int)))) ((k : Int) + 1) wr := by
        intro hz
        rw [if_neg hz] at he
        rw [hmod, hp7, or_add_u64 hN0 (by rw [← pow128]; exact hN1) hx.1 ?_ (by omega), ← pow128]
        · rw [← he] at hK; exact hK
        · rw [← pow128]
          have hp : (0 : Int) < 128 ^ k := Int.pow_pos (by omega)
          by_cases h9 : k = 9
          · subst h9
            have : xs[9] ≤ 1 := by omega
            have h1 : xs[9] * 128 ^ 9 ≤ 1 * 128 ^ 9 := Int.mul_le_mul_of_nonneg_right this (Int.le_of_lt hp)
            have h2 : (128 : Int) ^ 9 = 9223372036854775808 := by decide
            rw [h2] at h1 ⊢; omega
          · have h1 : (128 : Int) ^ k ≤ 128 ^ 8 := by exact_mod_cast Nat.pow_le_pow_right (n := 128) (by omega) (show k ≤ 8 by omega)
            have h2 : xs[k] * 128 ^ k ≤ 127 * 128 ^ k := Int.mul_le_mul_of_nonneg_right (by omega) (Int.le_of_lt hp)
            have h3 : (128 : Int) ^ 8 = 72057594037927936 := by decide
            rw [h3] at h1; omega
      have hbad : ((0 < k ∧ xs[k] = 0) ∨ (k = 9 ∧ 1 < xs[k])) → F71_j2 K wr := by
        intro hz
        rw [if_pos hz] at he
        unfold F71_j2
        rw [← he] at hK; exact hK
      refine ⟨fun h0 => ⟨fun hz => hbad (.inl ⟨by omega, hz⟩), fun hz => ⟨fun h9 => ⟨fun h1 => hbad (.inr ⟨by omega, h1⟩), fun h1 => hfin (by omega)⟩, fun h9 => hfin (by omega)⟩⟩,
        fun h0 => ⟨fun h9 => ⟨fun h1 => hbad (.inr ⟨by omega, h1⟩), fun h1 => hfin (by omega)⟩, fun h9 => hfin (by omega)⟩⟩
  · split at hge <;> omega
theorem C71 {b : Sl} {xs : List Int} {w : World} (hr : Rd B8 w b xs) (hb : bys xs) : Calls Try.prog 71 #[.slice b.a b.n b.c] w (fun e w1 => ∃ (r0 : Int), ∃ (r1 : Int), e = .returned (.tuple #[.int .u64 r0, .int .i64 r1]) ∧ (r0 = (uint xs).1 ∧ r1 = (uint xs).2 ∧ w1 = w)) :=
  F71_sound b (fun r0 r1 w1 => r0 = (uint xs).1 ∧ r1 = (uint xs).2 ∧ w1 = w) w (F71_spec hr hb ⟨rfl, rfl, rfl⟩)

theorem F72_spec {b : Sl} {xs : List Int} {K : Int → Int → World → Prop} {w : World} (hr : Rd B8 w b xs) (hb : bys xs) (hK : K (uint xs).1 (uint xs).2 w) : F72 b K w := by
  unfold F72
  have hn := hr.len
  have hc := hr.2.1
  have hm := hr.2.2.1
  simp only [maxLen] at hm
  refine ⟨fun s wr => wr = w ∧ ∃ (N : Int) (k : Nat), s = (N, (k : Int)) ∧ k ≤ 10 ∧ k ≤ xs.length ∧ uintF k N (xs.drop k) = uint xs ∧ (k ≤ 9 → 0 ≤ N ∧ N < 128 ^ k), fun s _ => 10 - s.2.toNat, ⟨rfl, 0, 0, rfl, by omega, by omega, rfl, fun _ => by simp⟩, ?_⟩
  rintro _ wr ⟨rfl, N, k, rfl, hk10, hkl, he, hN⟩
  unfold F72_l1
  have hstop : k = 10 ∨ k = xs.length → K 0 0 wr := by
    intro h
    have : uint xs = (0, 0) := by
      rw [← he]
      rcases h with h | h
      · exact uintF_ten _ _ (by omega)
      · rw [h, List.drop_length]; rfl
    rw [this] at hK; exact hK
  refine ⟨fun h10 => ⟨fun hlt => ?_, fun hge => hstop (.inr (by omega))⟩, fun h10 => hstop (.inl (by omega))⟩
  have hk9 : k ≤ 9 := by omega
  have hkx : k < xs.length := by omega
  obtain ⟨a, ha, hcell⟩ := hr.at k hkx
  refine ⟨by omega, by omega, a, ha, xs[k], by simpa using hcell, ?_⟩
  have hx := hb xs[k] (List.getElem_mem hkx)
  obtain ⟨hN0, hN1⟩ := hN hk9
  rw [w_i64 (n := 7 * (k : Int)) (by omega) (by omega), w_i64 (n := (k : Int) + 1) (by omega) (by omega), w_u64 (n := xs[k]) (by omega) (by omega), tm hx.1]
  have hd : xs.drop k = xs[k] :: xs.drop (k + 1) := (List.drop_eq_getElem_cons hkx)
  rw [hd] at he
  simp only [uintF, if_neg (show ¬ 10 ≤ k by omega)] at he
  have hp7 : (7 * (k : Int)) = ((7 * k : Nat) : Int) := by omega
  have hp : (0 : Int) < 128 ^ k := Int.pow_pos (by omega)
  have hsh : ∀ X : Int, 0 ≤ X → X * 128 ^ k < 18446744073709551616 → ishl .u64 X (7 * (k : Int)) = X * 128 ^ k := by
    intro X h0 h1
    rw [hp7, ishl, show min (((7 * k : Nat) : Int)).toNat IntKind.u64.bits = 7 * k by simp [IntKind.bits]; omega, ← pow128, w_u64 (Int.mul_nonneg h0 (Int.le_of_lt hp)) (by omega)]
  have hbig : k ≤ 8 → ∀ X : Int, 0 ≤ X → X ≤ 127 → 0 ≤ X * 128 ^ k ∧ X * 128 ^ k ≤ 127 * 72057594037927936 := by
    intro h8 X h0 h1
    have h2 : (128 : Int) ^ k ≤ 128 ^ 8 := by exact_mod_cast Nat.pow_le_pow_right (n := 128) (by omega) (show k ≤ 8 by omega)
    have h3 : (128 : Int) ^ 8 = 72057594037927936 := by decide
    rw [h3] at h2
    exact ⟨Int.mul_nonneg h0 (Int.le_of_lt hp), Int.le_trans (Int.mul_le_mul_of_nonneg_right h1 (Int.le_of_lt hp)) (Int.mul_le_mul_of_nonneg_left h2 (by omega))⟩
  have hN2 : k ≤ 8 → N < 72057594037927936 := by
    intro h8
    have h2 : (128 : Int) ^ k ≤ 128 ^ 8 := by exact_mod_cast Nat.pow_le_pow_right (n := 128) (by omega) (show k ≤ 8 by omega)
    have h3 : (128 : Int) ^ 8 = 72057594037927936 := by decide
    rw [h3] at h2; omega
  have hnext : 128 ≤ xs[k] → (∃ (N' : Int) (k' : Nat), (IntKind.u64.wrap (N + ishl .u64 (xs[k] % 128) (7 * (k : Int))), (k : Int) + 1) = (N', (k' : Int)) ∧ k' ≤ 10 ∧ k' ≤ xs.length ∧ uintF k' N' (xs.drop k') = uint xs ∧ (k' ≤ 9 → 0 ≤ N' ∧ N' < 128 ^ k')) := by
    intro h128
    rw [if_pos h128] at he
    refine ⟨_, k + 1, by rw [Int.natCast_add]; rfl, by omega, by omega, ?_, ?_⟩
    · by_cases h9 : k = 9
      · rw [uintF_ten _ _ (by omega)]; rw [uintF_ten _ _ (by omega)] at he; exact he
      · have h1 := hbig (by omega) (xs[k] % 128) (by omega) (by omega)
        have h2 := hN2 (by omega)
        rw [hsh _ (by omega) (by omega), w_u64 (by omega) (by omega)]
        exact he
    · intro h9
      have h1 := hbig (by omega) (xs[k] % 128) (by omega) (by omega)
      have h2 := hN2 (by omega)
      rw [hsh _ (by omega) (by omega), w_u64 (by omega) (by omega), Int.pow_succ]
      have h3 : (xs[k] % 128) * 128 ^ k ≤ 127 * 128 ^ k := Int.mul_le_mul_of_nonneg_right (by omega) (Int.le_of_lt hp)
      omega
  have hfin : ¬ 128 ≤ xs[k] → ¬ ((0 < k ∧ xs[k] = 0) ∨ (k = 9 ∧ 1 < xs[k])) → K (IntKind.u64.wrap (N + ishl .u64 (xs[k] % 128) (7 * (k : Int)))) ((k : Int) + 1) wr := by
    intro h128 hz
    rw [if_neg h128, if_neg hz] at he
    rw [show xs[k] % 128 = xs[k] by omega]
    by_cases h9 : k = 9
    · have h1 : xs[k] ≤ 1 := by omega
      have h2 : (128 : Int) ^ k = 9223372036854775808 := by rw [h9]; decide
      have h3 : xs[k] * 128 ^ k ≤ 1 * 128 ^ k := Int.mul_le_mul_of_nonneg_right h1 (Int.le_of_lt hp)
      have h4 := Int.mul_nonneg hx.1 (Int.le_of_lt hp)
      rw [hsh _ hx.1 (by omega), w_u64 (by omega) (by omega)]
      rw [← he] at hK; exact hK
    · have h1 := hbig (by omega) xs[k] hx.1 (by omega)
      have h2 := hN2 (by omega)
      rw [hsh _ hx.1 (by omega), w_u64 (by omega) (by omega)]
      rw [← he] at hK; exact hK
  have hbad : ¬ 128 ≤ xs[k] → ((0 < k ∧ xs[k] = 0) ∨ (k = 9 ∧ 1 < xs[k])) → K 0 0 wr := by
    intro h128 hz
    rw [if_neg h128, if_pos hz] at he
    rw [← he] at hK; exact hK
  refine ⟨fun h9 => ⟨fun h1 => ?_, fun h1 => ⟨by omega, fun h128 => by omega, fun h128 => ⟨fun hz => ⟨fun h0 => hbad h128 (.inl ⟨by omega, hz⟩), fun h0 => by omega⟩, fun hz => hfin h128 (by omega)⟩⟩⟩,
    fun h9 => ⟨by omega, fun h128 => ⟨⟨rfl, hnext h128⟩, by simp only; omega⟩, fun h128 => ⟨fun hz => ⟨fun h0 => hbad h128 (.inl ⟨by omega, hz⟩), fun h0 => hfin h128 (by omega)⟩, fun hz => hfin h128 (by omega)⟩⟩⟩
  by_cases h128 : 128 ≤ xs[k]
  · rw [if_pos h128, uintF_ten _ _ (by omega)] at he
    rw [← he] at hK; exact hK
  · exact hbad h128 (.inr ⟨by omega, by omega⟩)
theorem C72 {b : Sl} {xs : List Int} {w : World} (hr : Rd B8 w b xs) (hb : bys xs) : Calls Try.prog 72 #[.slice b.a b.n b.c] w (fun e w1 => ∃ (r0 : Int), ∃ (r1 : Int), e = .returned (.tuple #[.int .u64 r0, .int .i64 r1]) ∧ (r0 = (uint xs).1 ∧ r1 = (uint xs).2 ∧ w1 = w)) :=
  F72_sound b (fun r0 r1 w1 => r0 = (uint xs).1 ∧ r1 = (uint xs).2 ∧ w1 = w) w (F72_spec hr hb ⟨rfl, rfl, rfl⟩)
end Go.Proofs.Ytjgijifankaglaa
