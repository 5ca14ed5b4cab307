/- The document's sets. -/
import Derived.Test.YtjgijifankaglaaPB
import Derived.Test.YtjgijifankaglaaGPb
namespace Go.Proofs.Ytjgijifankaglaa
open Go Go.RowKit Go.Proofs.Ytjgijifankaglaa.SX
set_option linter.unusedVariables false

def u32s (xs : List Int) : Prop := ∀ x ∈ xs, 0 ≤ x ∧ x ≤ 4294967295
section
variable {w : World} {a b s : Sl} {xs ys : List Int} {n : Int}
theorem push1 {w wq : World} {out : Sl} {acc : List Int} {J : Sl → World → Prop} (hb : Below w.heap.size w wq) (ho : Own E4 23 w.heap.size wq out acc) (y : Int) (hl : acc.length ≤ 1000000000000)
    (hJ : ∀ out' wq', Own E4 23 w.heap.size wq' out' (acc ++ [y]) → Below w.heap.size w wq' → J out' wq') :
    ∀ (w_17 : World), w_17 = wq.alloc (.cells #[.int .u32 y] 23) → ∃ (t63_18 : Sl), ∃ (w_19 : World), (Builtin.append_ #[22, 22] 22 #[.slice out.a out.n out.c, .slice (some ⟨wq.heap.size, 0, none⟩) 1 1]).run Try.prog w_17 = .ok (.slice t63_18.a t63_18.n t63_18.c : Value) w_19 ∧ J t63_18 w_19 := by
  rintro _ rfl
  obtain ⟨s2, w2, h1, h2⟩ := ap_one (ty := 22) (w := wq) tyU e4one ho y hb.size (by omega)
  exact ⟨s2, w2, h1, hJ s2 w2 h2.own (h2.below ho hb.size hb)⟩
theorem C35 (h : Rd E4 w s xs) : Calls Try.prog 35 #[.slice s.a s.n s.c] w (fun e w1 => ∃ (r0 : Bool), e = .returned (.bool r0 : Value) ∧ (r0 = rise xs ∧ Below w.heap.size w w1)) := by
  refine F35_sound s (fun r0 w1 => r0 = rise xs ∧ Below w.heap.size w w1) w ?_
  unfold F35
  have hn := h.1
  have hm : s.n ≤ 9223372036854775807 := Nat.le_trans h.2.1 (by have := h.2.2.1; simpa [maxLen] using this)
  refine ⟨fun i wr => ∃ j : Nat, i = (j : Int) ∧ 1 ≤ j ∧ (∀ t (ht : t + 1 < xs.length), t + 1 < j → xs[t] < xs[t + 1]) ∧ Below w.heap.size w wr ∧ (j ≤ xs.length ∨ j = 1), fun i _ => (xs.length + 1 - i).toNat, ⟨1, rfl, by omega, fun t _ ht => by omega, Below.refl _ _, .inr rfl⟩, ?_⟩
  rintro _ wr ⟨j, rfl, hj1, hup, hb, hjl⟩
  unfold F35_l1
  have hr := h.below hb
  refine ⟨fun hlt => ?_, fun hge => ⟨?_, hb⟩⟩
  · have hjx : j < xs.length := by omega
    obtain ⟨a1, ha1, hc1⟩ := hr.at (j - 1) (by omega)
    obtain ⟨a2, ha2, hc2⟩ := hr.at j hjx
    rw [w_i64 (n := (j : Int) - 1) (by omega) (by omega), show ((j : Int) - 1).toNat = j - 1 by omega]
    refine ⟨by omega, by omega, a1, ha1, _, hc1, by omega, hlt, a2, ha2, _, hc2, ?_⟩
    rintro _ ⟨m, rfl⟩
    refine ⟨fun hge => ⟨?_, below_draw hb m⟩, fun hlt' => ?_⟩
    · cases hr : rise xs with
      | false => rfl
      | true =>
        have := rise_ix.1 hr (j - 1) (by omega)
        have e : xs[j - 1 + 1]'(by omega) = xs[j] := by congr 1; omega
        rw [e] at this
        omega
    · rw [w_i64 (by omega) (by omega)]
      refine ⟨⟨j + 1, by omega, by omega, fun t ht htj => ?_, below_draw hb m, .inl (by omega)⟩, by (try dsimp only); omega⟩
      by_cases htt : t + 1 = j
      · subst htt
        simp only [Nat.add_sub_cancel] at hlt'
        omega
      · exact hup t ht (by omega)
  · symm
    rw [rise_ix]
    intro t ht
    exact hup t ht (by omega)
theorem C68 (h : Rd E4 w s xs) (n : Int) : Calls Try.prog 68 #[.slice s.a s.n s.c, .int .u32 n] w (fun e w1 => ∃ (r0 : Bool), e = .returned (.bool r0 : Value) ∧ (r0 = decide (n ∈ xs) ∧ w1 = w)) := by
  refine F68_sound s n (fun r0 w1 => r0 = decide (n ∈ xs) ∧ w1 = w) w ?_
  unfold F68
  have hn := h.1
  have hm : s.n ≤ 9223372036854775807 := Nat.le_trans h.2.1 (by have := h.2.2.1; simpa [maxLen] using this)
  refine ⟨fun i wr => w = wr ∧ ∃ j : Nat, i = (j : Int) ∧ j ≤ xs.length ∧ (∀ t (ht : t < xs.length), t < j → xs[t] ≠ n), fun i _ => (xs.length - i).toNat, ⟨rfl, 0, rfl, by omega, fun t _ ht => by omega⟩, ?_⟩
  rintro _ wr ⟨rfl, j, rfl, hj, hne⟩
  unfold F68_l1
  refine ⟨fun hlt => ?_, fun hge => ?_⟩
  · have hjx : j < xs.length := by omega
    obtain ⟨a1, ha1, hc1⟩ := h.at j hjx
    refine ⟨by omega, hlt, a1, ha1, _, hc1, fun he => ?_, fun he => ?_⟩
    · refine ⟨?_, rfl⟩
      symm
      exact decide_eq_true (he ▸ List.getElem_mem hjx)
    · rw [w_i64 (by omega) (by omega)]
      refine ⟨⟨rfl, j + 1, by omega, by omega, fun t ht htj => ?_⟩, by (try dsimp only); omega⟩
      by_cases htt : t = j
      · subst htt; exact he
      · exact hne t ht (by omega)
  · refine ⟨?_, rfl⟩
    symm
    refine decide_eq_false fun hmem => ?_
    obtain ⟨t, ht, e⟩ := List.mem_iff_getElem.1 hmem
    exact hne t ht (by omega) e
theorem C67 (ha : Rd E4 w a xs) (hb : Rd E4 w b ys) : Calls Try.prog 67 #[.slice a.a a.n a.c, .slice b.a b.n b.c] w (fun e w1 => ∃ (r0 : Bool), e = .returned (.bool r0 : Value) ∧ (r0 = (rise xs && rise ys) ∧ Below w.heap.size w w1)) := by
  refine F67_sound a b (fun r0 w1 => r0 = (rise xs && rise ys) ∧ Below w.heap.size w w1) w ?_
  unfold F67 F67_j1
  refine (C35 ha).mono ?_
  rintro _ w4 ⟨_, rfl, rfl, b4⟩
  refine ⟨_, rfl, (C35 (hb.below b4)).mono ?_⟩
  rintro _ w6 ⟨_, rfl, rfl, b6⟩
  have B := b4.trans (b6.mono b4.size)
  exact ⟨_, rfl, fun h => ⟨by rw [h]; rfl, B⟩, fun h => ⟨by rw [h]; rfl, B⟩⟩
theorem filter_take {f : Int → Bool} {l : List Int} {j : Nat} (hj : j < l.length) : (l.take (j + 1)).filter f = (l.take j).filter f ++ opt (f l[j]) l[j] := by
  rw [← List.take_append_getElem hj, List.filter_append]
  congr 1
  unfold opt
  cases h : f l[j] <;> simp [h]
theorem len_filter_take {f : Int → Bool} {l : List Int} {j : Nat} : ((l.take j).filter f).length ≤ l.length := Nat.le_trans (List.length_filter_le _ _) (by simp; omega)
theorem C24 (ha : Rd E4 w a xs) (hb : Rd E4 w b ys) (hl : xs.length ≤ 1000000) : Calls Try.prog 24 #[.slice a.a a.n a.c, .slice b.a b.n b.c] w (fun e w1 => ∃ (r0 : Sl), e = .returned (.slice r0.a r0.n r0.c : Value) ∧ (Own E4 23 w.heap.size w1 r0 (joi false true false xs ys) ∧ Below w.heap.size w w1)) := by
  refine F24_sound a b (fun r0 w1 => Own E4 23 w.heap.size w1 r0 (joi false true false xs ys) ∧ Below w.heap.size w w1) w ?_
  unfold F24
  have hn := ha.1
  rw [joi_and]
  refine (C67 ha hb).mono ?_
  rintro _ w4 ⟨_, rfl, rfl, b4⟩
  refine ⟨_, rfl, ?_⟩
  refine ⟨fun st wr => ∃ j : Nat, st.2 = (j : Int) ∧ j ≤ xs.length ∧ ((rise xs && rise ys) = false → j = 0) ∧ Own E4 23 w.heap.size wr st.1 ((xs.take j).filter (fun x => decide (x ∈ ys))) ∧ Below w.heap.size w wr, fun st _ => (xs.length - st.2).toNat, ⟨0, rfl, by omega, fun _ => rfl, Own.nil, b4⟩, ?_⟩
  rintro ⟨out, _⟩ wr ⟨j, rfl, hj, h0, ho, hbw⟩
  dsimp only at ho
  unfold F24_l1 F24_j2
  refine ⟨fun ht => ⟨fun hlt => ?_, fun hge => ?_⟩, fun ht => ?_⟩
  · have hjx : j < xs.length := by omega
    obtain ⟨a1, ha1, hc1⟩ := (ha.below hbw).at j hjx
    refine ⟨by omega, hlt, a1, ha1, _, hc1, (C68 (hb.below hbw) _).mono ?_⟩
    rintro _ w9 ⟨_, rfl, rfl, rfl⟩
    have hft := filter_take (f := fun x => decide (x ∈ ys)) hjx
    have hlf := len_filter_take (f := fun x => decide (x ∈ ys)) (l := xs) (j := j)
    refine ⟨_, rfl, fun hin => ?_, fun hin => ?_⟩
    · refine ⟨by omega, hlt, a1, ha1, _, hc1, ?_⟩
      refine push1 (w := w) hbw ho _ (by omega) (fun out' wq' ho' hb' => ?_)
      rw [w_i64 (by omega) (by omega)]
      refine ⟨⟨j + 1, by (try dsimp only); omega, by omega, (fun h => by rw [ht] at h; cases h), ?_, hb'⟩, by (try dsimp only); omega⟩
      rw [hft]; dsimp only; rw [hin]; exact ho'
    · rw [w_i64 (by omega) (by omega)]
      refine ⟨⟨j + 1, by (try dsimp only); omega, by omega, (fun h => by rw [ht] at h; cases h), ?_, hbw⟩, by (try dsimp only); omega⟩
      rw [hft]; dsimp only; rw [hin]; simpa [opt] using ho
  · have : j = xs.length := by omega
    subst this
    rw [List.take_length] at ho
    rw [if_pos ht]
    exact ⟨ho, hbw⟩
  · have := h0 ht
    subst this
    rw [if_neg (by simp [ht])]
    exact ⟨ho, hbw⟩
theorem C26 (ha : Rd E4 w a xs) (hb : Rd E4 w b ys) (hl : xs.length ≤ 1000000) : Calls Try.prog 26 #[.slice a.a a.n a.c, .slice b.a b.n b.c] w (fun e w1 => ∃ (r0 : Sl), e = .returned (.slice r0.a r0.n r0.c : Value) ∧ (Own E4 23 w.heap.size w1 r0 (joi true false false xs ys) ∧ Below w.heap.size w w1)) := by
  refine F26_sound a b (fun r0 w1 => Own E4 23 w.heap.size w1 r0 (joi true false false xs ys) ∧ Below w.heap.size w w1) w ?_
  unfold F26
  have hn := ha.1
  rw [joi_not]
  refine (C67 ha hb).mono ?_
  rintro _ w4 ⟨_, rfl, rfl, b4⟩
  refine ⟨_, rfl, ?_⟩
  refine ⟨fun st wr => ∃ j : Nat, st.2 = (j : Int) ∧ j ≤ xs.length ∧ ((rise xs && rise ys) = false → j = 0) ∧ Own E4 23 w.heap.size wr st.1 ((xs.take j).filter (fun x => !decide (x ∈ ys))) ∧ Below w.heap.size w wr, fun st _ => (xs.length - st.2).toNat, ⟨0, rfl, by omega, fun _ => rfl, Own.nil, b4⟩, ?_⟩
  rintro ⟨out, _⟩ wr ⟨j, rfl, hj, h0, ho, hbw⟩
  dsimp only at ho
  unfold F26_l1 F26_j2
  refine ⟨fun ht => ⟨fun hlt => ?_, fun hge => ?_⟩, fun ht => ?_⟩
  · have hjx : j < xs.length := by omega
    obtain ⟨a1, ha1, hc1⟩ := (ha.below hbw).at j hjx
    refine ⟨by omega, hlt, a1, ha1, _, hc1, (C68 (hb.below hbw) _).mono ?_⟩
    rintro _ w9 ⟨_, rfl, rfl, rfl⟩
    have hft := filter_take (f := fun x => !decide (x ∈ ys)) hjx
    have hlf := len_filter_take (f := fun x => !decide (x ∈ ys)) (l := xs) (j := j)
    refine ⟨_, rfl, fun hin => ?_, fun hin => ?_⟩
    · refine ⟨by omega, hlt, a1, ha1, _, hc1, ?_⟩
      refine push1 (w := w) hbw ho _ (by omega) (fun out' wq' ho' hb' => ?_)
      rw [w_i64 (by omega) (by omega)]
      refine ⟨⟨j + 1, by (try dsimp only); omega, by omega, (fun h => by rw [ht] at h; cases h), ?_, hb'⟩, by (try dsimp only); omega⟩
      rw [hft]; dsimp only; rw [hin]; exact ho'
    · rw [w_i64 (by omega) (by omega)]
      refine ⟨⟨j + 1, by (try dsimp only); omega, by omega, (fun h => by rw [ht] at h; cases h), ?_, hbw⟩, by (try dsimp only); omega⟩
      rw [hft]; dsimp only; rw [hin]; simpa [opt] using ho
  · have : j = xs.length := by omega
    subst this
    rw [List.take_length] at ho
    rw [if_pos ht]
    exact ⟨ho, hbw⟩
  · have := h0 ht
    subst this
    rw [if_neg (by simp [ht])]
    exact ⟨ho, hbw⟩
theorem C28 (h : Rd E4 w s xs) (n : Int) : Calls Try.prog 28 #[.slice s.a s.n s.c, .int .u32 n] w (fun e w1 => ∃ (r0 : Bool), e = .returned (.bool r0 : Value) ∧ (r0 = hasS xs n ∧ Below w.heap.size w w1)) := by
  refine F28_sound s n (fun r0 w1 => r0 = hasS xs n ∧ Below w.heap.size w w1) w ?_
  unfold F28 F28_j1
  refine (C35 h).mono ?_
  rintro _ w4 ⟨_, rfl, rfl, b4⟩
  refine ⟨_, rfl, (C68 (h.below b4) n).mono ?_⟩
  rintro _ w6 ⟨_, rfl, rfl, rfl⟩
  exact ⟨_, rfl, fun h => ⟨by unfold hasS; rw [h]; rfl, b4⟩, fun h => ⟨by unfold hasS; rw [h]; rfl, b4⟩⟩
theorem insr {K : Sl → Bool → World → Prop} {w w11 : World} {t31 : Sl} {i : Nat} (h : Rd E4 w s xs) (hi : i ≤ xs.length) (hl : xs.length ≤ 1000000) (hb : Below w.heap.size w w11) (ho : Own E4 23 w.heap.size w11 t31 (xs.take i))
    (hK : ∀ t w', Own E4 23 w.heap.size w' t (xs.take i ++ [n] ++ xs.drop i) → Below w.heap.size w w' → K t true w') :
    ∀ (w_17 : World), w_17 = w11.alloc (.cells #[.int .u32 n] 23) →
  ∃ (t52_18 : Sl), ∃ (w_19 : World), (Builtin.append_ #[22, 22] 22 #[.slice t31.a t31.n t31.c, .slice (some ⟨w11.heap.size, 0, none⟩) 1 1]).run Try.prog w_17 = .ok (.slice t52_18.a t52_18.n t52_18.c : Value) w_19 ∧
  ∃ (t56_20 : Sl), (Instr.sliceAt 22 (.slice s.a s.n s.c : Value) (some (.int .i64 (i : Int) : Value)) none none).run Try.prog w_19 = .ok (.slice t56_20.a t56_20.n t56_20.c : Value) w_19 ∧
  ∃ (t57_21 : Sl), ∃ (w_22 : World), (Builtin.append_ #[22, 22] 22 #[.slice t52_18.a t52_18.n t52_18.c, .slice t56_20.a t56_20.n t56_20.c]).run Try.prog w_19 = .ok (.slice t57_21.a t57_21.n t57_21.c : Value) w_22 ∧
  K t57_21 true w_22 := by
  have hn := h.1
  refine push1 (w := w) hb ho n (by simp; omega) (fun out' wq' ho' hb' => ?_)
  refine ⟨⟨_, _, _⟩, cut_lo (w := wq') tyU s _ i rfl (by omega), ?_⟩
  obtain ⟨s3, w3, h3, h4⟩ := ap_many (ty := 22) (w := wq') tyU e4one ho' ((h.drop i hi).below hb') hb'.size (by simp; omega)
  exact ⟨s3, w3, h3, hK _ _ h4.own (h4.below ho' hb'.size hb')⟩
theorem C21 (h : Rd E4 w s xs) (n : Int) (hl : xs.length ≤ 1000000) : Calls Try.prog 21 #[.slice s.a s.n s.c, .int .u32 n] w (fun e w1 => ∃ (r0 : Sl), ∃ (r1 : Bool), e = .returned (.tuple #[.slice r0.a r0.n r0.c, .bool r1]) ∧ (Own E4 23 w.heap.size w1 r0 (addS xs n).1 ∧ r1 = (addS xs n).2 ∧ Below w.heap.size w w1)) := by
  refine F21_sound s n (fun r0 r1 w1 => Own E4 23 w.heap.size w1 r0 (addS xs n).1 ∧ r1 = (addS xs n).2 ∧ Below w.heap.size w w1) w ?_
  unfold F21
  have hn := h.1
  refine (C35 h).mono ?_
  rintro _ w4 ⟨_, rfl, rfl, b4⟩
  refine ⟨_, rfl, fun hr => ?_, fun hr => ?_⟩
  · unfold addS; rw [hr]; exact ⟨Own.nil, rfl, b4⟩
  · have hu := rise_up hr
    refine ⟨fun i wr => ∃ j : Nat, i = (j : Int) ∧ j ≤ xs.length ∧ (∀ t (ht : t < xs.length), t < j → xs[t] < n) ∧ wr = w4, fun i _ => (xs.length - i).toNat, ⟨0, rfl, by omega, fun t _ ht => by omega, rfl⟩, ?_⟩
    rintro _ _ ⟨j, rfl, hj, hlow, rfl⟩
    rename_i wr
    unfold F21_l1
    have yes : ∀ t w', (∀ t (ht : t < xs.length), j ≤ t → n ≤ xs[t]) → n ∉ xs → Own E4 23 w.heap.size w' t (xs.take j ++ [n] ++ xs.drop j) → Below w.heap.size w w' → Own E4 23 w.heap.size w' t (addS xs n).1 ∧ true = (addS xs n).2 ∧ Below w.heap.size w w' := by
      intro t w' h2 hne o b
      have e := low_ix hj hlow h2
      unfold addS ins
      rw [if_pos hr, if_neg hne, e]
      exact ⟨by simpa using o, rfl, b⟩
    refine ⟨fun hlt => ?_, fun hge => ?_⟩
    · have hjx : j < xs.length := by omega
      obtain ⟨a1, ha1, hc1⟩ := (h.below b4).at j hjx
      refine ⟨by omega, hlt, a1, ha1, _, hc1, fun hx => ?_, fun hx => ?_⟩
      · rw [w_i64 (by omega) (by omega)]
        refine ⟨⟨j + 1, by omega, by omega, fun t ht htj => ?_, rfl⟩, by (try dsimp only); omega⟩
        by_cases htt : t = j
        · subst htt; exact hx
        · exact hlow t ht (by omega)
      · have h2 : ∀ t (ht : t < xs.length), j ≤ t → n ≤ xs[t] := by
          intro t ht htj
          by_cases htt : t = j
          · subst htt; omega
          · have := up_ix hu ht (show j < t by omega); omega
        obtain ⟨s2, w2, r2, o2, b2⟩ := ap_nil (ty := 22) tyU e4one ((h.take j hj).below b4) (by simp; omega)
        have B2 := b4.trans (b2.mono b4.size)
        obtain ⟨a2, ha2, hc2⟩ := (h.below B2).at j hjx
        refine ⟨⟨s.a, j, s.c⟩, cut_hi (w := _) tyU s _ j rfl (by have := h.2.1; omega), s2, w2, r2, fun _ => ⟨by omega, hlt, a2, ha2, _, hc2, fun he => ?_, fun he => ?_⟩, fun hno => absurd hlt hno⟩
        · refine ⟨⟨_, _, _⟩, cut_lo (w := w2) tyU s _ j rfl (by omega), ?_⟩
          obtain ⟨s3, w3, h3, h4⟩ := ap_many (ty := 22) (w := w2) tyU e4one (o2.lower b4.size) ((h.drop j hj).below B2) B2.size (by simp; omega)
          refine ⟨s3, w3, h3, ?_⟩
          have hmem : n ∈ xs := he ▸ List.getElem_mem hjx
          unfold addS
          rw [if_pos hr, if_pos hmem]
          exact ⟨by simpa using h4.own, rfl, h4.below (o2.lower b4.size) B2.size B2⟩
        · have hne : n ∉ xs := by
            intro hmem
            obtain ⟨t, ht, e⟩ := List.mem_iff_getElem.1 hmem
            by_cases htj : t < j
            · have := hlow t ht htj; omega
            · by_cases htt : t = j
              · subst htt; exact he e
              · have := up_ix hu ht (show j < t by omega); omega
          exact insr (n := n) (K := fun r0 r1 w1 => Own E4 23 w.heap.size w1 r0 (addS xs n).1 ∧ r1 = (addS xs n).2 ∧ Below w.heap.size w w1) h hj hl B2 (o2.lower b4.size) (fun t w' o b => yes t w' h2 hne o b)
    · have hjx : j = xs.length := by omega
      have h2 : ∀ t (ht : t < xs.length), j ≤ t → n ≤ xs[t] := fun t ht htj => by omega
      have hne : n ∉ xs := by
        intro hmem
        obtain ⟨t, ht, e⟩ := List.mem_iff_getElem.1 hmem
        have := hlow t ht (by omega); omega
      obtain ⟨s2, w2, r2, o2, b2⟩ := ap_nil (ty := 22) tyU e4one ((h.take j hj).below b4) (by simp; omega)
      have B2 := b4.trans (b2.mono b4.size)
      refine ⟨⟨s.a, j, s.c⟩, cut_hi (w := _) tyU s _ j rfl (by have := h.2.1; omega), s2, w2, r2, fun hno => absurd hno hge, fun _ => ?_⟩
      exact insr (n := n) (K := fun r0 r1 w1 => Own E4 23 w.heap.size w1 r0 (addS xs n).1 ∧ r1 = (addS xs n).2 ∧ Below w.heap.size w w1) h hj hl B2 (o2.lower b4.size) (fun t w' o b => yes t w' h2 hne o b)
theorem addS_len {l : List Int} {n : Int} : (addS l n).1.length ≤ l.length + 1 := by
  unfold addS
  split
  · split
    · simp
    · have := low_le l n
      unfold ins; simp; omega
  · simp
theorem C25 (ha : Rd E4 w a xs) (hb : Rd E4 w b ys) (hl : xs.length + ys.length ≤ 1000000) : Calls Try.prog 25 #[.slice a.a a.n a.c, .slice b.a b.n b.c] w (fun e w1 => ∃ (r0 : Sl), e = .returned (.slice r0.a r0.n r0.c : Value) ∧ (Own E4 23 w.heap.size w1 r0 (joi true true true xs ys) ∧ Below w.heap.size w w1)) := by
  refine F25_sound a b (fun r0 w1 => Own E4 23 w.heap.size w1 r0 (joi true true true xs ys) ∧ Below w.heap.size w w1) w ?_
  unfold F25
  have hn := hb.1
  rw [joi_or]
  refine (C67 ha hb).mono ?_
  rintro _ w4 ⟨_, rfl, rfl, b4⟩
  refine ⟨_, rfl, fun ht => ⟨by rw [ht]; exact Own.nil, b4⟩, fun ht => ?_⟩
  rw [if_pos ht]
  obtain ⟨s2, w2, r2, o2, b2⟩ := ap_nil (ty := 22) tyU e4one (ha.below b4) (by omega)
  have B2 := b4.trans (b2.mono b4.size)
  refine ⟨s2, w2, r2, ?_⟩
  refine ⟨fun st wr => ∃ j : Nat, st.2 = (j : Int) ∧ j ≤ ys.length ∧ (orR xs (ys.take j)).length ≤ xs.length + j ∧ Own E4 23 w.heap.size wr st.1 (orR xs (ys.take j)) ∧ Below w.heap.size w wr, fun st _ => (ys.length - st.2).toNat, ⟨0, rfl, by omega, Nat.le_refl _, o2.lower b4.size, B2⟩, ?_⟩
  rintro ⟨out, _⟩ wr ⟨j, rfl, hj, hle, ho, hbw⟩
  dsimp only at ho
  unfold F25_l1
  refine ⟨fun hlt => ?_, fun hge => ?_⟩
  · have hjx : j < ys.length := by omega
    obtain ⟨a1, ha1, hc1⟩ := (hb.below hbw).at j hjx
    refine ⟨by omega, hlt, a1, ha1, _, hc1, (C21 ho.rd _ (by omega)).mono ?_⟩
    rintro _ w9 ⟨s9, _, rfl, o9, rfl, b9⟩
    refine ⟨_, _, rfl, ?_⟩
    rw [w_i64 (by omega) (by omega)]
    have e : orR xs (ys.take (j + 1)) = (addS (orR xs (ys.take j)) ys[j]).1 := by
      unfold orR; rw [← List.take_append_getElem hjx, List.foldl_append]; rfl
    have hle2 := addS_len (l := orR xs (ys.take j)) (n := ys[j])
    exact ⟨⟨j + 1, by (try dsimp only); omega, by omega, by rw [e]; omega, by rw [e]; exact o9.lower hbw.size, hbw.trans (b9.mono hbw.size)⟩, by (try dsimp only); omega⟩
  · have : j = ys.length := by omega
    subst this
    rw [List.take_length] at ho
    exact ⟨ho, hbw⟩
theorem C22 (h : Rd E4 w s xs) (n : Int) (hl : xs.length ≤ 1000000) : Calls Try.prog 22 #[.slice s.a s.n s.c, .int .u32 n] w (fun e w1 => ∃ (r0 : Sl), ∃ (r1 : Bool), e = .returned (.tuple #[.slice r0.a r0.n r0.c, .bool r1]) ∧ (Own E4 23 w.heap.size w1 r0 (takS xs n).1 ∧ r1 = (takS xs n).2 ∧ Below w.heap.size w w1)) := by
  refine F22_sound s n (fun r0 r1 w1 => Own E4 23 w.heap.size w1 r0 (takS xs n).1 ∧ r1 = (takS xs n).2 ∧ Below w.heap.size w w1) w ?_
  unfold F22
  have hn := h.1
  refine (C35 h).mono ?_
  rintro _ w4 ⟨_, rfl, rfl, b4⟩
  refine ⟨_, rfl, fun hr => ?_, fun hr => ?_⟩
  · unfold takS; rw [hr]; exact ⟨Own.nil, rfl, b4⟩
  · refine ⟨fun st wr => ∃ j : Nat, st.2 = (j : Int) ∧ j ≤ xs.length ∧ Own E4 23 w.heap.size wr st.1 ((xs.take j).filter (· ≠ n)) ∧ Below w.heap.size w wr, fun st _ => (xs.length - st.2).toNat, ⟨0, rfl, by omega, Own.nil, b4⟩, ?_⟩
    rintro ⟨out, _⟩ wr ⟨j, rfl, hj, ho, hbw⟩
    dsimp only at ho
    unfold F22_l1 F22_j2
    refine ⟨fun hlt => ?_, fun hge => ?_⟩
    · have hjx : j < xs.length := by omega
      obtain ⟨a1, ha1, hc1⟩ := (h.below hbw).at j hjx
      have hft := filter_take (f := (fun x => decide (x ≠ n))) hjx
      have hlf := len_filter_take (f := (fun x => decide (x ≠ n))) (l := xs) (j := j)
      refine ⟨by omega, hlt, a1, ha1, _, hc1, fun hne => ?_, fun he => ?_⟩
      · refine ⟨by omega, hlt, a1, ha1, _, hc1, ?_⟩
        refine push1 (w := w) hbw ho _ (by omega) (fun out' wq' ho' hb' => ?_)
        rw [w_i64 (by omega) (by omega)]
        refine ⟨⟨j + 1, by (try dsimp only); omega, by omega, ?_, hb'⟩, by (try dsimp only); omega⟩
        rw [hft]; dsimp only; rw [decide_eq_true hne]; exact ho'
      · rw [w_i64 (by omega) (by omega)]
        refine ⟨⟨j + 1, by (try dsimp only); omega, by omega, ?_, hbw⟩, by (try dsimp only); omega⟩
        rw [hft]; dsimp only; rw [decide_eq_false (by simp [he])]; simpa [opt] using ho
    · have : j = xs.length := by omega
      subst this
      rw [List.take_length] at ho
      have hol := ho.len
      unfold takS
      rw [if_pos hr]
      refine ⟨ho, ?_, hbw⟩
      dsimp only
      rw [decide_eq_decide]
      have := List.length_filter_lt_length_iff_exists (l := xs) (p := fun x => decide (x ≠ n))
      constructor
      · intro h1
        obtain ⟨x, hx, hp⟩ := this.1 (by omega)
        simp at hp
        exact hp ▸ hx
      · intro h1
        have := this.2 ⟨n, h1, by simp⟩
        omega
end
end Go.Proofs.Ytjgijifankaglaa
