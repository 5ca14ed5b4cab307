/- Package post: where a number stands; copies; lists one behind the other; Has, Add, Take. -/
import Derived.Test.YtjgijifankaglaaPA
namespace Go.Proofs.Ytjgijifankaglaa
open Go Go.RowKit Go.Proofs.Ytjgijifankaglaa.SX
set_option linter.unusedVariables false

theorem low_ix {l : List Int} {n : Int} {i : Nat} (hi : i ≤ l.length) (h1 : ∀ t (ht : t < l.length), t < i → l[t] < n) (h2 : ∀ t (ht : t < l.length), i ≤ t → n ≤ l[t]) : low l n = i := by
  unfold low
  induction l generalizing i with
  | nil => simp at hi; simp [hi]
  | cons a l ih =>
    cases i with
    | zero =>
      have := h2 0 (by simp) (by omega)
      simp at this
      simp [this]
    | succ i =>
      have h0 := h1 0 (by simp) (by omega)
      simp at h0
      simp [h0]
      exact ih (by simpa using hi) (fun t ht hti => h1 (t + 1) (by simpa using ht) (by omega)) (fun t ht hti => h2 (t + 1) (by simpa using ht) (by omega))
theorem up_ix {l : List Int} (h : Up l) {i j : Nat} (hj : j < l.length) (hij : i < j) : l[i] < l[j] := List.pairwise_iff_getElem.1 h i j (by omega) hj hij
section
variable {w : World} {a b s : Sl} {xs ys : List Int} {n : Int}
theorem C108 (w : World) (n : Int) : Calls Try.prog 108 #[.int .u32 n] w (fun e w1 => ∃ (r0 : Bool), e = .returned (.bool r0 : Value) ∧ (r0 = false ∧ w1 = w)) := by
  refine F108_sound n (fun r0 w1 => r0 = false ∧ w1 = w) w ?_
  unfold F108
  exact ⟨by simp, rfl⟩
theorem C92 (w : World) (n : Int) : Calls Try.prog 92 #[.int .u32 n] w (fun e w1 => ∃ (r0 : Bool), e = .returned (.bool r0 : Value) ∧ (r0 = false ∧ w1 = w)) := by
  refine F92_sound n (fun r0 w1 => r0 = false ∧ w1 = w) w ?_
  unfold F92
  exact ⟨by simp, rfl⟩
theorem C91 (w : World) (x y : Int) : Calls Try.prog 91 #[.int .u32 x, .int .u32 y] w (fun e w1 => ∃ (r0 : Bool), e = .returned (.bool r0 : Value) ∧ (r0 = decide (x < y) ∧ w1 = w)) := by
  refine F91_sound x y (fun r0 w1 => r0 = decide (x < y) ∧ w1 = w) w ?_
  unfold F91 F91_j1
  refine (C108 w x).mono ?_
  rintro _ w1 ⟨_, rfl, rfl, rfl⟩
  exact ⟨_, rfl, (fun h => nomatch h), fun _ => ⟨rfl, rfl⟩⟩
theorem C64 (h : Rd E4 w s xs) (n : Int) (hl : xs.length ≤ 1000000000000) : Calls Try.prog 64 #[.slice s.a s.n s.c, .int .u32 n] w (fun e w1 => ∃ (r0 : Int), ∃ (r1 : Bool), e = .returned (.tuple #[.int .i64 r0, .bool r1]) ∧ ((∃ i : Nat, r0 = (i : Int) ∧ i ≤ xs.length ∧ (Up xs → i = low xs n ∧ r1 = decide (n ∈ xs))) ∧ w1 = w)) := by
  refine F64_sound s n (fun r0 r1 w1 => (∃ i : Nat, r0 = (i : Int) ∧ i ≤ xs.length ∧ (Up xs → i = low xs n ∧ r1 = decide (n ∈ xs))) ∧ w1 = w) w ?_
  unfold F64
  have hn := h.1
  refine ⟨fun st wr => w = wr ∧ ∃ i j : Nat, st = ((i : Int), (j : Int)) ∧ i ≤ j ∧ j ≤ xs.length ∧ (Up xs → (∀ t (ht : t < xs.length), t < i → xs[t] < n) ∧ (∀ t (ht : t < xs.length), j ≤ t → n ≤ xs[t])), fun st _ => (st.2 - st.1).toNat,
    ⟨rfl, 0, s.n, rfl, by omega, by omega, fun _ => ⟨fun t ht h0 => by omega, fun t ht h0 => by omega⟩⟩, ?_⟩
  rintro _ wr ⟨rfl, i, j, rfl, hij, hjl, hup⟩
  unfold F64_l1
  refine ⟨fun hlt => ?_, fun hge => ?_⟩
  · have hh : IntKind.i64.wrap (Int.fdiv (IntKind.u64.wrap (IntKind.i64.wrap ((i : Int) + (j : Int)))) (2 ^ 1)) = (((i + j) / 2 : Nat) : Int) := by
      rw [w_i64 (n := (i : Int) + (j : Int)) (by omega) (by omega), w_u64 (by omega) (by omega), fd _ (by omega), w_i64 (by omega) (by omega)]; omega
    generalize hm : (i + j) / 2 = m at hh
    have hmx : m < xs.length := by omega
    obtain ⟨a, ha, hc⟩ := h.at m hmx
    simp only [hh, Int.toNat_natCast]
    refine ⟨by omega, by omega, a, ha, _, hc, (C91 w xs[m] n).mono ?_⟩
    rintro _ w9 ⟨_, rfl, rfl, rfl⟩
    refine ⟨_, rfl, fun hl1 => ?_, fun hl1 => ?_⟩
    · have hl1 := of_decide_eq_true hl1
      rw [w_i64 (by omega) (by omega)]
      refine ⟨⟨rfl, m + 1, j, rfl, by omega, hjl, fun hu => ⟨fun t ht htm => ?_, (hup hu).2⟩⟩, by (try dsimp only); omega⟩
      by_cases htt : t = m
      · subst htt; exact hl1
      · have := up_ix hu hmx (show t < m by omega); omega
    · have hl1 := of_decide_eq_false hl1
      refine ⟨⟨rfl, i, m, rfl, by omega, by omega, fun hu => ⟨(hup hu).1, fun t ht htm => ?_⟩⟩, by (try dsimp only); omega⟩
      by_cases htt : t = m
      · subst htt; omega
      · have := up_ix hu ht (show m < t by omega); omega
  · obtain rfl : i = j := by omega
    have hlow : Up xs → i = low xs n := fun hu => (low_ix hjl (hup hu).1 (hup hu).2).symm
    have hno : ∀ (hu : Up xs), (∀ (hi : i < xs.length), xs[i] ≠ n) → n ∉ xs := by
      intro hu hne hmem
      obtain ⟨t, ht, htn⟩ := List.mem_iff_getElem.1 hmem
      rcases Nat.lt_trichotomy t i with h1 | h1 | h1
      · have := (hup hu).1 t ht h1; omega
      · subst h1; exact hne ht htn
      · have h2 := up_ix hu ht h1
        have h3 := (hup hu).2 i (by omega) (Nat.le_refl _)
        omega
    unfold F64_j2
    refine ⟨fun hlt => ?_, fun hge => ⟨⟨i, rfl, hjl, fun hu => ⟨hlow hu, ?_⟩⟩, rfl⟩⟩
    · have hix : i < xs.length := by omega
      obtain ⟨a, ha, hc⟩ := h.at i hix
      refine ⟨by omega, hlt, a, ha, _, hc, fun heq => ⟨⟨i, rfl, hjl, fun hu => ⟨hlow hu, ?_⟩⟩, rfl⟩, fun hne => ?_⟩
      · simp only [true_eq_decide_iff]; exact heq ▸ List.getElem_mem hix
      · refine ⟨by omega, hlt, a, ha, _, hc, (C92 w xs[i]).mono ?_⟩
        rintro _ w18 ⟨_, rfl, rfl, rfl⟩
        refine ⟨_, rfl, (fun h => nomatch h), fun _ => ⟨⟨i, rfl, hjl, fun hu => ⟨hlow hu, ?_⟩⟩, rfl⟩⟩
        simp only [false_eq_decide_iff]
        exact hno hu (fun _ => hne)
    · simp only [false_eq_decide_iff]
      exact hno hu (fun hi => by omega)
theorem C65 (hr : Rd E4 w s xs) (hl : xs.length ≤ 1000000000000) : Calls Try.prog 65 #[.slice s.a s.n s.c] w (fun e w1 => ∃ (r0 : Sl), e = .returned (.slice r0.a r0.n r0.c : Value) ∧ (Own E4 23 w.heap.size w1 r0 xs ∧ Below w.heap.size w w1)) := by
  refine F65_sound s (fun r0 w1 => Own E4 23 w.heap.size w1 r0 xs ∧ Below w.heap.size w w1) w ?_
  unfold F65
  refine ⟨fun hn => ?_, fun hn => ?_⟩
  · have : xs = [] := by
      rcases Nat.eq_zero_or_pos s.n with h0 | h0
      · exact List.eq_nil_of_length_eq_zero (by have := hr.1; omega)
      · obtain ⟨a, ha, _⟩ := hr.2.2.2 h0
        rw [ha] at hn; cases hn
    subst this
    exact ⟨Own.nil, Below.refl _ _⟩
  · rintro _ rfl
    have hB : Below w.heap.size w (w.alloc (.cells #[] 23)) := (Below.refl _ _).alloc (Nat.le_refl _) _
    have ho : Own E4 23 w.heap.size (w.alloc (.cells #[] 23)) ⟨some ⟨w.heap.size, 0, none⟩, 0, 0⟩ [] := ⟨rfl, .inr ⟨w.heap.size, 0, #[], rfl, Nat.le_refl _, heap_alloc_new w _, Nat.le_refl _, by simp [maxLen], rfl, rfl⟩⟩
    obtain ⟨s2, w2, h1, h2⟩ := ap_many (ty := 22) tyU e4one ho (hr.below hB) (by simp) (by simp; omega)
    exact ⟨s2, w2, h1, by simpa using h2.own, h2.below ho (by simp) hB⟩
theorem C93 (w : World) (n : Nat) (hn : n ≤ 1000000000000) : Calls Try.prog 93 #[.slice none 0 0, .int .i64 (n : Int)] w (fun e w1 => ∃ (r0 : Sl), e = .returned (.slice r0.a r0.n r0.c : Value) ∧ (Own E4 23 w.heap.size w1 r0 [] ∧ Below w.heap.size w w1)) := by
  refine F93_sound ⟨none, 0, 0⟩ n (fun r0 w1 => Own E4 23 w.heap.size w1 r0 [] ∧ Below w.heap.size w w1) w ?_
  unfold F93
  have e1 : IntKind.i64.wrap ((n : Int) - IntKind.i64.wrap (((0 : Nat) : Int) - ((0 : Nat) : Int))) = (n : Int) := by
    rw [w_i64 (n := ((0 : Nat) : Int) - ((0 : Nat) : Int)) (by omega) (by omega), w_i64 (by omega) (by omega)]; omega
  simp only [e1]
  refine ⟨fun h => by omega, fun _ => ⟨fun hp => ?_, fun hp => ?_⟩⟩
  · obtain ⟨i0, hi, hz0, hz1, hz2⟩ := info_parts tyU.info
    have hrun := Lib.run_append_nil_zeros (P := Try.prog) w 22 3 22 23 i0 (.int .u32 0) .i64 .i64 Try.underlying22 Try.underlying3 hi hz0 n (by omega) (by omega) (by omega) (by rw [hz2]; omega)
    have hcap1 := grownCap_ge w n 0 23
    have hcap2 := grownCap_le_maxLen w n 0 23 (by simp only [maxLen]; omega)
    refine ⟨⟨none, 0, 0⟩, cut_hi (w := w) tyU ⟨none, 0, 0⟩ 0 0 rfl (Nat.le_refl _), ⟨some ⟨w.heap.size, 0, none⟩, n, grownCap w n 0 23⟩, _, hrun, ?_⟩
    refine ⟨⟨some ⟨w.heap.size, 0, none⟩, 0, grownCap w n 0 23⟩, cut_hi tyU ⟨some ⟨w.heap.size, 0, none⟩, n, grownCap w n 0 23⟩ 0 0 rfl (Nat.zero_le _), ?_⟩
    unfold F93_j1
    refine ⟨⟨rfl, .inr ⟨w.heap.size, grownCap w n 0 23, _, rfl, Nat.le_refl _, heap_alloc_new w.drew _, Nat.zero_le _, hcap2, ?_, by simp⟩⟩, (below_drew (Below.refl _ _)).alloc (Nat.le_refl _) _⟩
    simp [Builtin.zeroCells, Value.cells]
    omega
  · unfold F93_j1
    exact ⟨Own.nil, Below.refl _ _⟩
abbrev SV (s : Sl) : Value := s.v
theorem C66 {sl : Sl} {ss : List Sl} {xss : List (List Int)} (h : Rd SV w sl ss) (hlen : ss.length = xss.length) (hx : ∀ i (h1 : i < ss.length) (h2 : i < xss.length), Rd E4 w ss[i] xss[i]) (hl : xss.flatten.length ≤ 1000000000000) :
    Calls Try.prog 66 #[.slice sl.a sl.n sl.c] w (fun e w1 => ∃ (r0 : Sl), e = .returned (.slice r0.a r0.n r0.c : Value) ∧ (Own E4 23 w.heap.size w1 r0 xss.flatten ∧ Below w.heap.size w w1)) := by
  refine F66_sound sl (fun r0 w1 => Own E4 23 w.heap.size w1 r0 xss.flatten ∧ Below w.heap.size w w1) w ?_
  unfold F66
  have hn := h.1
  have hm : sl.n ≤ 9223372036854775807 := Nat.le_trans h.2.1 (by have := h.2.2.1; simpa [maxLen] using this)
  have hstep : ∀ i (hi : i < xss.length), (xss.take (i + 1)).flatten = (xss.take i).flatten ++ xss[i] := by
    intro i hi
    rw [← List.take_append_getElem hi, List.flatten_append]; simp
  have hle : ∀ i, (xss.take i).flatten.length ≤ xss.flatten.length := by
    intro i
    conv => rhs; rw [← List.take_append_drop i xss, List.flatten_append]
    simp
  refine ⟨fun st wr => w = wr ∧ ∃ i : Nat, st = (((xss.take i).flatten.length : Int), (i : Int)) ∧ i ≤ xss.length, fun st _ => (xss.length - st.2).toNat, ⟨rfl, 0, rfl, by omega⟩, ?_⟩
  rintro _ wr ⟨rfl, i, rfl, hi⟩
  unfold F66_l1
  have hli := hle i
  refine ⟨fun hlt => ?_, fun hge => ?_⟩
  · have his : i < ss.length := by omega
    have hix : i < xss.length := by omega
    obtain ⟨a, ha, hc⟩ := h.at i his
    have hxi := (hx i his hix).1
    have hs1 := hstep i hix
    have hl1 := hle (i + 1)
    have hl2 := congrArg List.length hs1
    rw [List.length_append] at hl2
    refine ⟨by omega, hlt, a, ha, ss[i], hc, ?_⟩
    rw [w_i64 (n := ((xss.take i).flatten.length : Int) + (ss[i].n : Int)) (by omega) (by omega)]
    refine ⟨fun h => by omega, fun _ => ?_⟩
    rw [w_i64 (by omega) (by omega)]
    refine ⟨⟨rfl, i + 1, ?_, by omega⟩, by (try dsimp only); omega⟩
    rw [hl2]
    congr 1
    omega
  · refine (C93 w (xss.take i).flatten.length (by omega)).mono ?_
    rintro _ w8 ⟨out, rfl, o8, b8⟩
    refine ⟨_, rfl, ?_⟩
    refine ⟨fun st wr => ∃ j : Nat, st.2 = (j : Int) ∧ j ≤ xss.length ∧ Own E4 23 w.heap.size wr st.1 (xss.take j).flatten ∧ Below w.heap.size w wr, fun st _ => (xss.length - st.2).toNat, ⟨0, rfl, by omega, o8, b8⟩, ?_⟩
    rintro ⟨out', _⟩ wr ⟨j, rfl, hj, ho, hb⟩
    dsimp only at ho
    unfold F66_l2
    refine ⟨fun hlt => ?_, fun hge => ?_⟩
    · have his : j < ss.length := by omega
      have hix : j < xss.length := by omega
      obtain ⟨a, ha, hc⟩ := (h.below hb).at j his
      have hs1 := hstep j hix
      have hl1 := hle (j + 1)
      have hl2 := congrArg List.length hs1
      rw [List.length_append] at hl2
      obtain ⟨s2, w2, h1, h2⟩ := ap_many (ty := 22) (w := wr) tyU e4one ho ((hx j his hix).below hb) hb.size (by omega)
      refine ⟨by omega, hlt, a, ha, ss[j], hc, s2, w2, h1, ?_⟩
      rw [w_i64 (by omega) (by omega)]
      refine ⟨⟨j + 1, by (try dsimp only); omega, by omega, ?_, h2.below ho hb.size hb⟩, by (try dsimp only); omega⟩
      rw [hs1]; exact h2.own
    · have : j = xss.length := by omega
      subst this
      rw [List.take_length] at ho
      exact ⟨ho, hb⟩
theorem C27 (h : Rd E4 w s xs) (n : Int) (hl : xs.length ≤ 1000000000000) : Calls Try.prog 27 #[.slice s.a s.n s.c, .int .u32 n] w (fun e w1 => ∃ (r0 : Bool), e = .returned (.bool r0 : Value) ∧ (r0 = hasS xs n ∧ Below w.heap.size w w1)) := by
  refine F27_sound s n (fun r0 w1 => r0 = hasS xs n ∧ Below w.heap.size w w1) w ?_
  unfold F27
  refine (C64 h n hl).mono ?_
  rintro _ w5 ⟨_, is, rfl, ⟨i, rfl, hi, hu⟩, rfl⟩
  unfold F27_j1
  refine ⟨_, _, rfl, fun his => ?_, fun his => ⟨?_, Below.refl _ _⟩⟩
  · refine (C63 h).mono ?_
    rintro _ w7 ⟨_, rfl, rfl, b7⟩
    refine ⟨_, rfl, ?_, b7⟩
    unfold hasS
    cases hr : rise xs with
    | false => rfl
    | true => rw [← (hu (rise_up hr)).2, his]; rfl
  · unfold hasS
    cases hr : rise xs with
    | false => rfl
    | true => rw [← (hu (rise_up hr)).2, his]; rfl
theorem take_filter {l : List Int} {n : Int} (hl : Up l) (hn : n ∈ l) : l.take (low l n) ++ l.drop (low l n + 1) = l.filter (· ≠ n) := by
  induction l with
  | nil => simp at hn
  | cons a l ih =>
    have hl' := List.pairwise_cons.1 hl
    by_cases ha : a < n
    · have hnl : n ∈ l := by
        rcases List.mem_cons.1 hn with h | h
        · omega
        · exact h
      have e : low (a :: l) n = low l n + 1 := by unfold low; simp [ha]
      rw [e]
      have : a ≠ n := by omega
      simp [this]
      simpa using ih hl'.2 hnl
    · have e : low (a :: l) n = 0 := by unfold low; simp [ha]
      have han : a = n := by
        rcases List.mem_cons.1 hn with h | h
        · exact h.symm
        · have := hl'.1 n h; omega
      rw [e]
      subst han
      simp
      symm
      rw [List.filter_eq_self]
      intro x hx
      have := hl'.1 x hx
      simp; omega
theorem row_cells3 {w : World} {cs : List Sl} {e : Nat} (hm : cs.length ≤ maxLen) : Rd SV (w.alloc (.cells (cs.map SV).toArray e)) ⟨some ⟨w.heap.size, 0, none⟩, cs.length, cs.length⟩ cs := by
  refine ⟨rfl, Nat.le_refl _, hm, fun _ => ⟨_, rfl, fun j hj => ?_⟩⟩
  have := cell_of_row (w.alloc (.cells (cs.map SV).toArray e)) w.heap.size j (cs.map SV).toArray e (0, 0) (heap_alloc_new w _)
  rw [add_lit, this]
  simp [hj]
theorem C19 (h : Rd E4 w s xs) (n : Int) (hl : xs.length ≤ 1000000) : Calls Try.prog 19 #[.slice s.a s.n s.c, .int .u32 n] w (fun e w1 => ∃ (r0 : Sl), ∃ (r1 : Bool), e = .returned (.tuple #[.slice r0.a r0.n r0.c, .bool r1]) ∧ (Own E4 23 w.heap.size w1 r0 (addS xs n).1 ∧ r1 = (addS xs n).2 ∧ Below w.heap.size w w1)) := by
  refine F19_sound s n (fun r0 r1 w1 => Own E4 23 w.heap.size w1 r0 (addS xs n).1 ∧ r1 = (addS xs n).2 ∧ Below w.heap.size w w1) w ?_
  unfold F19
  have hn := h.1
  refine (C63 h).mono ?_
  rintro _ w4 ⟨_, rfl, rfl, b4⟩
  refine ⟨_, rfl, fun hr => ?_, fun hr => ?_⟩
  · unfold addS; rw [hr]; exact ⟨Own.nil, rfl, b4⟩
  · have hu := rise_up hr
    refine (C64 (h.below b4) n (by omega)).mono ?_
    rintro _ w7 ⟨_, is, rfl, ⟨i, rfl, hi, huu⟩, rfl⟩
    obtain ⟨hlow, his⟩ := huu hu
    refine ⟨_, _, rfl, fun h1 => ?_, fun h1 => ?_⟩
    · rw [his] at h1
      have hmem := of_decide_eq_true h1
      refine (C65 (h.below b4) (by omega)).mono ?_
      rintro _ w9 ⟨t19, rfl, o9, b9⟩
      unfold addS
      rw [if_pos hr, if_pos hmem]
      exact ⟨_, rfl, o9.lower b4.size, rfl, b4.trans (b9.mono b4.size)⟩
    · rw [his] at h1
      have hmem := of_decide_eq_false h1
      rintro _ rfl
      have h1' : ∀ w' : World, (Instr.sliceAt 22 (.slice s.a s.n s.c : Value) none (some (.int .i64 (i : Int) : Value)) none).run Try.prog w' = .ok (.slice s.a i s.c) w' := fun w' => cut_hi tyU s _ i rfl (by have := h.2.1; omega)
      have h2' : ∀ w' : World, (Instr.sliceAt 22 (.slice s.a s.n s.c : Value) (some (.int .i64 (i : Int) : Value)) none none).run Try.prog w' = .ok (.slice (if s.c = i then s.a else s.a.map (·.add i)) (s.n - i) (s.c - i)) w' := fun w' => cut_lo tyU s _ i rfl (by omega)
      have b7 : Below w.heap.size w w7.drew := below_drew b4
      refine ⟨⟨s.a, i, s.c⟩, h1' _, ⟨if s.c = i then s.a else s.a.map (·.add i), s.n - i, s.c - i⟩, h2' _, ?_⟩
      rintro _ rfl
      refine ⟨h2' _, h1' _, ?_⟩
      have b13 : Below w.heap.size w (w7.drew.alloc (.cells #[.int .u32 n] 23)) := b7.alloc b7.size _
      have hone : Rd E4 (w7.drew.alloc (.cells #[.int .u32 n] 23)) ⟨some ⟨w7.drew.heap.size, 0, none⟩, 1, 1⟩ [n] := by
        refine ⟨rfl, Nat.le_refl _, by simp [maxLen], fun _ => ⟨_, rfl, fun j hj => ?_⟩⟩
        simp at hj
        subst hj
        have := cell_of_row (w7.drew.alloc (.cells #[.int .u32 n] 23)) w7.drew.heap.size 0 #[.int .u32 n] 23 (0, 0) (heap_alloc_new _ _)
        rw [add_lit, this]; rfl
      generalize (w7.drew.alloc (.cells #[.int .u32 n] 23)) = w13 at b13 hone ⊢
      rintro _ rfl
      have hrow := row_cells3 (w := w13) (e := 22) (cs := [⟨s.a, i, s.c⟩, ⟨some ⟨w7.drew.heap.size, 0, none⟩, 1, 1⟩, ⟨if s.c = i then s.a else s.a.map (·.add i), s.n - i, s.c - i⟩]) (by simp [maxLen])
      have b14 : Below w13.heap.size w13 (w13.alloc (.cells #[.slice s.a i s.c, .slice (some ⟨w7.drew.heap.size, 0, none⟩) 1 1, .slice (if s.c = i then s.a else s.a.map (·.add i)) (s.n - i) (s.c - i)] 22)) := (Below.refl _ _).alloc (Nat.le_refl _) _
      have B14 := b13.trans (b14.mono b13.size)
      refine (C66 (xss := [xs.take i, [n], xs.drop i]) hrow rfl ?_ (by simp; omega)).mono ?_
      · intro j hj1 hj2
        match j, hj1 with
        | 0, _ => exact (h.take i hi).below B14
        | 1, _ => exact hone.below b14
        | 2, _ => exact (h.drop i hi).below B14
      · rintro _ w16 ⟨t29, rfl, o16, b16⟩
        refine ⟨_, rfl, ?_⟩
        have e : [xs.take i, [n], xs.drop i].flatten = (addS xs n).1 := by
          unfold addS ins; rw [if_pos hr, if_neg hmem, hlow]; simp
        rw [e] at o16
        exact ⟨o16.lower B14.size, by unfold addS; rw [if_pos hr, if_neg hmem], B14.trans (b16.mono B14.size)⟩
theorem C20 (h : Rd E4 w s xs) (n : Int) (hl : xs.length ≤ 1000000) : Calls Try.prog 20 #[.slice s.a s.n s.c, .int .u32 n] w (fun e w1 => ∃ (r0 : Sl), ∃ (r1 : Bool), e = .returned (.tuple #[.slice r0.a r0.n r0.c, .bool r1]) ∧ (Own E4 23 w.heap.size w1 r0 (takS xs n).1 ∧ r1 = (takS xs n).2 ∧ Below w.heap.size w w1)) := by
  refine F20_sound s n (fun r0 r1 w1 => Own E4 23 w.heap.size w1 r0 (takS xs n).1 ∧ r1 = (takS xs n).2 ∧ Below w.heap.size w w1) w ?_
  unfold F20
  have hn := h.1
  refine (C63 h).mono ?_
  rintro _ w4 ⟨_, rfl, rfl, b4⟩
  refine ⟨_, rfl, fun hr => ?_, fun hr => ?_⟩
  · unfold takS; rw [hr]; exact ⟨Own.nil, rfl, b4⟩
  · have hu := rise_up hr
    refine (C64 (h.below b4) n (by omega)).mono ?_
    rintro _ w7 ⟨_, is, rfl, ⟨i, rfl, hi, huu⟩, rfl⟩
    obtain ⟨hlow, his⟩ := huu hu
    refine ⟨_, _, rfl, fun h1 => ?_, fun h1 => ?_⟩
    · rw [his] at h1
      have hmem := of_decide_eq_false h1
      refine (C65 (h.below b4) (by omega)).mono ?_
      rintro _ w9 ⟨t19, rfl, o9, b9⟩
      have e : (takS xs n).1 = xs := by
        unfold takS; rw [if_pos hr]
        exact List.filter_eq_self.2 (fun x hx => by simp; exact fun e => hmem (e ▸ hx))
      rw [e]
      refine ⟨_, rfl, o9.lower b4.size, ?_, b4.trans (b9.mono b4.size)⟩
      unfold takS; rw [if_pos hr, h1]
    · rw [his] at h1
      have hmem := of_decide_eq_true h1
      have hil : i < xs.length := by
        rcases Nat.lt_or_ge i xs.length with h | h
        · exact h
        · exfalso
          have : low xs n = xs.length := by omega
          obtain ⟨t, ht, htn⟩ := List.mem_iff_getElem.1 hmem
          have := low_lt (l := xs) (n := n) (x := n) (by rw [this, List.take_length]; exact hmem)
          omega
      rintro _ rfl
      rw [w_i64 (by omega) (by omega)]
      have h1' : ∀ w' : World, (Instr.sliceAt 22 (.slice s.a s.n s.c : Value) none (some (.int .i64 (i : Int) : Value)) none).run Try.prog w' = .ok (.slice s.a i s.c) w' := fun w' => cut_hi tyU s _ i rfl (by have := h.2.1; omega)
      have h2' : ∀ w' : World, (Instr.sliceAt 22 (.slice s.a s.n s.c : Value) (some (.int .i64 ((i : Int) + 1) : Value)) none none).run Try.prog w' = .ok (.slice (if s.c = i + 1 then s.a else s.a.map (·.add (i + 1))) (s.n - (i + 1)) (s.c - (i + 1))) w' := fun w' => cut_lo tyU s _ (i + 1) (by omega) (by omega)
      have b7 : Below w.heap.size w w7.drew := below_drew b4
      refine ⟨⟨s.a, i, s.c⟩, h1' _, ⟨if s.c = i + 1 then s.a else s.a.map (·.add (i + 1)), s.n - (i + 1), s.c - (i + 1)⟩, h2' _, ?_⟩
      generalize w7.drew = w10 at b7 ⊢
      rintro _ rfl
      have hrow := row_cells3 (w := w10) (e := 22) (cs := [⟨s.a, i, s.c⟩, ⟨if s.c = i + 1 then s.a else s.a.map (·.add (i + 1)), s.n - (i + 1), s.c - (i + 1)⟩]) (by simp [maxLen])
      have b14 : Below w10.heap.size w10 (w10.alloc (.cells #[.slice s.a i s.c, .slice (if s.c = i + 1 then s.a else s.a.map (·.add (i + 1))) (s.n - (i + 1)) (s.c - (i + 1))] 22)) := (Below.refl _ _).alloc (Nat.le_refl _) _
      have B14 := b7.trans (b14.mono b7.size)
      refine (C66 (xss := [xs.take i, xs.drop (i + 1)]) hrow rfl ?_ (by simp; omega)).mono ?_
      · intro j hj1 hj2
        match j, hj1 with
        | 0, _ => exact (h.take i hi).below B14
        | 1, _ => exact (h.drop (i + 1) (by omega)).below B14
      · rintro _ w16 ⟨t29, rfl, o16, b16⟩
        refine ⟨_, rfl, ?_⟩
        have e : [xs.take i, xs.drop (i + 1)].flatten = (takS xs n).1 := by
          unfold takS; rw [if_pos hr, ← take_filter hu hmem, hlow]; simp
        rw [e] at o16
        exact ⟨o16.lower B14.size, by unfold takS; rw [if_pos hr, h1], B14.trans (b16.mono B14.size)⟩
end
end Go.Proofs.Ytjgijifankaglaa
