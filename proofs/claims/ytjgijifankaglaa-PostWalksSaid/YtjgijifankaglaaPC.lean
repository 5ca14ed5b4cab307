/- Package post, and its document: Put and Get. -/
import Derived.Test.YtjgijifankaglaaPD
namespace Go.Proofs.Ytjgijifankaglaa
open Go Go.RowKit Go.Proofs.Ytjgijifankaglaa.SX
set_option linter.unusedVariables false

def gp (p : Int) : List Int → List Int
  | [] => []
  | x :: l => uv (x - p - 1).toNat ++ gp x l
def putS (bs xs : List Int) : List Int × Bool := if rise xs then (bs ++ uv xs.length ++ gp (-1) xs, true) else ([], false)
def pr (xs : List Int) (j : Nat) : Int := if j = 0 then -1 else xs.getD (j - 1) 0
theorem pr_facts {xs : List Int} (hr : rise xs = true) (hu : u32s xs) {j : Nat} (hj : j < xs.length) : -1 ≤ pr xs j ∧ pr xs j < xs[j] ∧ pr xs (j + 1) = xs[j] ∧ 0 ≤ xs[j] ∧ xs[j] ≤ 4294967295 ∧ (∀ h : 0 < j, pr xs j = xs[j - 1]'(by omega)) ∧ (0 < j → 0 ≤ pr xs j) ∧ gp (pr xs j) (xs.drop j) = uv (xs[j] - pr xs j - 1).toNat ++ gp (pr xs (j + 1)) (xs.drop (j + 1)) := by
  have h1 := hu xs[j] (List.getElem_mem hj)
  have h2 : pr xs (j + 1) = xs[j] := by unfold pr; simp [hj]
  have h3 : ∀ h : 0 < j, pr xs j = xs[j - 1]'(by omega) := by
    intro h
    unfold pr
    rw [if_neg (by omega), List.getD_eq_getElem?_getD, List.getElem?_eq_getElem (by omega)]; rfl
  have h4 : -1 ≤ pr xs j ∧ pr xs j < xs[j] ∧ (0 < j → 0 ≤ pr xs j) := by
    by_cases h : 0 < j
    · have h5 := hu (xs[j - 1]'(by omega)) (List.getElem_mem _)
      have h6 := rise_ix.1 hr (j - 1) (by omega)
      have e : xs[j - 1 + 1]'(by omega) = xs[j] := by congr 1; omega
      rw [e] at h6
      rw [h3 h]
      exact ⟨by omega, h6, fun _ => h5.1⟩
    · have : pr xs j = -1 := by unfold pr; rw [if_pos (by omega)]
      rw [this]
      exact ⟨by omega, by omega, fun h' => absurd h' h⟩
  refine ⟨h4.1, h4.2.1, h2, h1.1, h1.2, h3, h4.2.2, ?_⟩
  rw [h2, List.drop_eq_getElem_cons hj, gp]
def getF (bs : List Int) : Nat → Nat → Int → List Int → List Int × Int
  | 0, a, _, acc => (acc, (a : Int))
  | k + 1, a, nx, acc => if (uint (bs.drop a)).2 = 0 then ([], 0) else if (uint (bs.drop a)).1 > 4294967295 then ([], 0) else if nx + (uint (bs.drop a)).1 > 4294967295 then ([], 0) else getF bs k (a + (uint (bs.drop a)).2.toNat) (nx + (uint (bs.drop a)).1 + 1) (acc ++ [nx + (uint (bs.drop a)).1])
def getS (bs : List Int) : List Int × Int := if (uint bs).2 = 0 then ([], 0) else if (uint bs).1 > (bs.length : Int) - (uint bs).2 then ([], 0) else getF bs (uint bs).1.toNat (uint bs).2.toNat 0 []

section
variable {w wr : World} {a b s out : Sl} {xs ys bs : List Int}
theorem j31 {next : (Sl × Int) → World → Prop} {j g : Nat} {n : Int} (hb : Below w.heap.size w wr) (ho : Own B8 5 w.heap.size wr out ys) (hyl : ys.length ≤ 100000000) (hn : n = g) (hg : g < 4294967296) (hj : j ≤ 1000000)
    (hN : ∀ s3 w3, Own B8 5 w.heap.size w3 s3 (ys ++ uv g) → Below w.heap.size w w3 → next (s3, (j : Int) + 1) w3) : F31_j2 out j next n wr := by
  unfold F31_j2
  have h10 := uv_len10 (n := g) (by omega)
  refine C69 (b := ⟨none, 0, 0⟩) (xs := []) (n := g) (by rw [hn, w_u64 (by omega) (by omega)]) Rd.nil (by decide) (by omega) (fun s2 w2 o2 b2 => ?_)
  obtain ⟨s3, w3, h3, h4⟩ := ap_many (ty := 33) (w := w2) ty22 b8one (ho.below b2) o2.rd (Nat.le_trans hb.size b2.size) (by simp; omega)
  refine ⟨s3, w3, h3, ?_⟩
  rw [w_i64 (by omega) (by omega)]
  exact hN _ _ (by simpa using h4.own) (h4.below (ho.below b2) (Nat.le_trans hb.size b2.size) (hb.trans (b2.mono hb.size)))
theorem j32 {next : (Sl × Int) → World → Prop} {j g : Nat} {n : Int} (hb : Below w.heap.size w wr) (ho : Own B8 5 w.heap.size wr out ys) (hyl : ys.length ≤ 100000000) (hn : n = g) (hg : g < 4294967296) (hj : j ≤ 1000000)
    (hN : ∀ s3 w3, Own B8 5 w.heap.size w3 s3 (ys ++ uv g) → Below w.heap.size w w3 → next (s3, (j : Int) + 1) w3) : F32_j2 out j next n wr := by
  unfold F32_j2
  refine C70 (n := g) hn ho.rd (by omega) (by omega) (fun s2 w2 o2 b2 => ?_)
  rw [w_i64 (by omega) (by omega)]
  exact hN _ _ (o2.lower hb.size) (hb.trans (b2.mono hb.size))
theorem C31 (hb : Rd B8 w b bs) (h : Rd E4 w s xs) (hu : u32s xs) (hlb : bs.length ≤ 1000000) (hl : xs.length ≤ 1000000) : Calls Try.prog 31 #[.slice b.a b.n b.c, .slice s.a s.n s.c] w (fun e w1 => ∃ (r0 : Sl), ∃ (r1 : Bool), e = .returned (.tuple #[.slice r0.a r0.n r0.c, .bool r1]) ∧ (Own B8 5 w.heap.size w1 r0 (putS bs xs).1 ∧ r1 = (putS bs xs).2 ∧ Below w.heap.size w w1)) := by
  refine F31_sound b s (fun r0 r1 w1 => Own B8 5 w.heap.size w1 r0 (putS bs xs).1 ∧ r1 = (putS bs xs).2 ∧ Below w.heap.size w w1) w ?_
  unfold F31
  have hn := h.1
  refine (C63 h).mono ?_
  rintro _ w4 ⟨_, rfl, rfl, b4⟩
  refine ⟨_, rfl, fun hr => ?_, fun hr => ?_⟩
  · unfold putS; rw [hr]; exact ⟨Own.nil, rfl, b4⟩
  · have h10 := uv_len10 (n := xs.length) (by omega)
    refine C69 (n := xs.length) (by rw [w_u64 (by omega) (by omega)]; omega) (hb.below b4) (by omega) (by omega) (fun s1 w1 o1 b1 => ?_)
    have B1 := b4.trans (b1.mono b4.size)
    refine ⟨fun st wr => ∃ j : Nat, ∃ ys, st.2 = (j : Int) ∧ j ≤ xs.length ∧ ys ++ gp (pr xs j) (xs.drop j) = bs ++ uv xs.length ++ gp (-1) xs ∧ ys.length ≤ bs.length + 10 * (j + 1) ∧ Own B8 5 w.heap.size wr st.1 ys ∧ Below w.heap.size w wr, fun st _ => (xs.length - st.2).toNat, ⟨0, _, rfl, by omega, rfl, by rw [List.length_append]; omega, o1.lower b4.size, B1⟩, ?_⟩
    rintro ⟨out, _⟩ wr ⟨j, ys, rfl, hj, he, hyl, ho, hb⟩
    dsimp only at ho
    unfold F31_l1
    refine ⟨fun hlt => ?_, fun hge => ?_⟩
    · have hjx : j < xs.length := by omega
      obtain ⟨a1, ha1, hc1⟩ := (h.below hb).at j hjx
      obtain ⟨p1, p2, p3, p4, p5, p6, p7, p8⟩ := pr_facts hr hu hjx
      rw [p8] at he
      have h10 := uv_len10 (n := (xs[j] - pr xs j - 1).toNat) (by omega)
      have fin : ∀ s3 w3, Own B8 5 w.heap.size w3 s3 (ys ++ uv (xs[j] - pr xs j - 1).toNat) → Below w.heap.size w w3 → (∃ j' : Nat, ∃ ys, (j : Int) + 1 = (j' : Int) ∧ j' ≤ xs.length ∧ ys ++ gp (pr xs j') (xs.drop j') = bs ++ uv xs.length ++ gp (-1) xs ∧ ys.length ≤ bs.length + 10 * (j' + 1) ∧ Own B8 5 w.heap.size w3 s3 ys ∧ Below w.heap.size w w3) ∧ (xs.length - ((j : Int) + 1)).toNat < (xs.length - (j : Int)).toNat := by
        intro s3 w3 o3 b3
        exact ⟨⟨j + 1, _, by omega, by omega, by rw [← he, List.append_assoc], by rw [List.length_append]; omega, o3, b3⟩, by omega⟩
      refine ⟨by omega, hlt, a1, ha1, _, hc1, fun h0 => ?_, fun h0 => ?_⟩
      · obtain ⟨a2, ha2, hc2⟩ := (h.below hb).at (j - 1) (by omega)
        rw [w_i64 (n := (j : Int) - 1) (by omega) (by omega), show ((j : Int) - 1).toNat = j - 1 by omega]
        refine ⟨by omega, by omega, a2, ha2, _, hc2, ?_⟩
        have := p6 (by omega)
        have := p7 (by omega)
        exact j31 hb ho (by omega) (g := (xs[j] - pr xs j - 1).toNat) (by rw [w_u32 (n := xs[j - 1] + 1) (by omega) (by omega), w_u32 (by omega) (by omega)]; omega) (by omega) (by omega) fin
      · have hj0 : j = 0 := by omega
        have : pr xs j = -1 := by unfold pr; rw [if_pos hj0]
        exact j31 hb ho (by omega) (g := (xs[j] - pr xs j - 1).toNat) (by omega) (by omega) (by omega) fin
    · have hjx : j = xs.length := by omega
      subst hjx
      rw [List.drop_length, gp, List.append_nil] at he
      unfold putS
      rw [hr]
      rw [he] at ho
      exact ⟨ho, rfl, hb⟩
theorem C32 (hb : Rd B8 w b bs) (h : Rd E4 w s xs) (hu : u32s xs) (hlb : bs.length ≤ 1000000) (hl : xs.length ≤ 1000000) : Calls Try.prog 32 #[.slice b.a b.n b.c, .slice s.a s.n s.c] w (fun e w1 => ∃ (r0 : Sl), ∃ (r1 : Bool), e = .returned (.tuple #[.slice r0.a r0.n r0.c, .bool r1]) ∧ (Own B8 5 w.heap.size w1 r0 (putS bs xs).1 ∧ r1 = (putS bs xs).2 ∧ Below w.heap.size w w1)) := by
  refine F32_sound b s (fun r0 r1 w1 => Own B8 5 w.heap.size w1 r0 (putS bs xs).1 ∧ r1 = (putS bs xs).2 ∧ Below w.heap.size w w1) w ?_
  unfold F32
  have hn := h.1
  refine (C35 h).mono ?_
  rintro _ w4 ⟨_, rfl, rfl, b4⟩
  refine ⟨_, rfl, fun hr => ?_, fun hr => ?_⟩
  · unfold putS; rw [hr]; exact ⟨Own.nil, rfl, b4⟩
  · have h10 := uv_len10 (n := xs.length) (by omega)
    refine C70 (n := xs.length) (by rw [w_u64 (by omega) (by omega)]; omega) (hb.below b4) (by omega) (by omega) (fun s1 w1 o1 b1 => ?_)
    have B1 := b4.trans (b1.mono b4.size)
    refine ⟨fun st wr => ∃ j : Nat, ∃ ys, st.2 = (j : Int) ∧ j ≤ xs.length ∧ ys ++ gp (pr xs j) (xs.drop j) = bs ++ uv xs.length ++ gp (-1) xs ∧ ys.length ≤ bs.length + 10 * (j + 1) ∧ Own B8 5 w.heap.size wr st.1 ys ∧ Below w.heap.size w wr, fun st _ => (xs.length - st.2).toNat, ⟨0, _, rfl, by omega, rfl, by rw [List.length_append]; omega, o1.lower b4.size, B1⟩, ?_⟩
    rintro ⟨out, _⟩ wr ⟨j, ys, rfl, hj, he, hyl, ho, hb⟩
    dsimp only at ho
    unfold F32_l1
    refine ⟨fun hlt => ?_, fun hge => ?_⟩
    · have hjx : j < xs.length := by omega
      obtain ⟨a1, ha1, hc1⟩ := (h.below hb).at j hjx
      obtain ⟨p1, p2, p3, p4, p5, p6, p7, p8⟩ := pr_facts hr hu hjx
      rw [p8] at he
      have h10 := uv_len10 (n := (xs[j] - pr xs j - 1).toNat) (by omega)
      have fin : ∀ s3 w3, Own B8 5 w.heap.size w3 s3 (ys ++ uv (xs[j] - pr xs j - 1).toNat) → Below w.heap.size w w3 → (∃ j' : Nat, ∃ ys, (j : Int) + 1 = (j' : Int) ∧ j' ≤ xs.length ∧ ys ++ gp (pr xs j') (xs.drop j') = bs ++ uv xs.length ++ gp (-1) xs ∧ ys.length ≤ bs.length + 10 * (j' + 1) ∧ Own B8 5 w.heap.size w3 s3 ys ∧ Below w.heap.size w w3) ∧ (xs.length - ((j : Int) + 1)).toNat < (xs.length - (j : Int)).toNat := by
        intro s3 w3 o3 b3
        exact ⟨⟨j + 1, _, by omega, by omega, by rw [← he, List.append_assoc], by rw [List.length_append]; omega, o3, b3⟩, by omega⟩
      refine ⟨by omega, hlt, a1, ha1, _, hc1, fun h0 => ?_, fun h0 => ?_⟩
      · obtain ⟨a2, ha2, hc2⟩ := (h.below hb).at (j - 1) (by omega)
        rw [w_i64 (n := (j : Int) - 1) (by omega) (by omega), show ((j : Int) - 1).toNat = j - 1 by omega]
        refine ⟨by omega, by omega, a2, ha2, _, hc2, ?_⟩
        have := p6 (by omega)
        have := p7 (by omega)
        exact j32 hb ho (by omega) (g := (xs[j] - pr xs j - 1).toNat) (by rw [w_u64 (n := xs[j]) (by omega) (by omega), w_u64 (n := xs[j - 1]) (by omega) (by omega), w_u64 (n := xs[j] - xs[j - 1]) (by omega) (by omega), w_u64 (by omega) (by omega)]; omega) (by omega) (by omega) fin
      · have hj0 : j = 0 := by omega
        have : pr xs j = -1 := by unfold pr; rw [if_pos hj0]
        exact j32 hb ho (by omega) (g := (xs[j] - pr xs j - 1).toNat) (by rw [w_u64 (by omega) (by omega)]; omega) (by omega) (by omega) fin
    · have hjx : j = xs.length := by omega
      subst hjx
      rw [List.drop_length, gp, List.append_nil] at he
      unfold putS
      rw [hr]
      rw [he] at ho
      exact ⟨ho, rfl, hb⟩
theorem C33 (h : Rd B8 w b bs) (hbs : bys bs) (hlb : bs.length ≤ 1000000) : Calls Try.prog 33 #[.slice b.a b.n b.c] w (fun e w1 => ∃ (r0 : Sl), ∃ (r1 : Int), e = .returned (.tuple #[.slice r0.a r0.n r0.c, .int .i64 r1]) ∧ (Own E4 23 w.heap.size w1 r0 (getS bs).1 ∧ r1 = (getS bs).2 ∧ Below w.heap.size w w1)) := by
  refine F33_sound b (fun r0 r1 w1 => Own E4 23 w.heap.size w1 r0 (getS bs).1 ∧ r1 = (getS bs).2 ∧ Below w.heap.size w w1) w ?_
  unfold F33
  have hn := h.1
  refine (C71 h hbs).mono ?_
  rintro _ w4 ⟨_, _, rfl, rfl, rfl, rfl⟩
  obtain ⟨u1, u2, u3, u4, u5, u6⟩ := uint_range hbs
  refine ⟨_, _, rfl, fun h0 => ?_, fun h0 => ?_⟩
  · unfold getS; rw [if_pos h0]; exact ⟨Own.nil, rfl, Below.refl _ _⟩
  · rw [w_i64 (n := (b.n : Int) - (uint bs).2) (by omega) (by omega), w_u64 (by omega) (by omega)]
    refine ⟨fun h1 => ?_, fun h1 => ?_⟩
    · unfold getS; rw [if_neg h0, if_pos (by omega)]; exact ⟨Own.nil, rfl, Below.refl _ _⟩
    · have hg : getS bs = getF bs (uint bs).1.toNat (uint bs).2.toNat 0 [] := by unfold getS; rw [if_neg h0, if_neg (by omega)]
      obtain ⟨i0, hi, hz0, hz1, hz2⟩ := info_parts tyU.info
      have hrun := run_make (P := Try.prog) w4 22 23 i0 (.int .u32 0) tyU.sl hi hz0 .i64 .u64 0 (uint bs).1 (by omega) (by omega) (by rw [hz2]; omega) (by omega)
      have hrun' : (Instr.makeSlice 22 (.int .i64 0) (.int .u64 (uint bs).1)).run Try.prog w4 = .ok (.slice (some ⟨w4.heap.size, 0, none⟩) 0 (uint bs).1.toNat) (w4.alloc (.cells (madeCells #[.int .u32 0] (uint bs).1.toNat) 23)) := by simpa [hz1, Value.cells] using hrun
      have B0 : Below w4.heap.size w4 (w4.alloc (.cells (madeCells #[.int .u32 0] (uint bs).1.toNat) 23)) := (Below.refl _ _).alloc (Nat.le_refl _) _
      have O0 : Own E4 23 w4.heap.size (w4.alloc (.cells (madeCells #[.int .u32 0] (uint bs).1.toNat) 23)) ⟨some ⟨w4.heap.size, 0, none⟩, 0, (uint bs).1.toNat⟩ [] := ⟨by simp, .inr ⟨w4.heap.size, (uint bs).1.toNat, _, rfl, Nat.le_refl _, heap_alloc_new w4 _, Nat.zero_le _, by simp only [maxLen]; omega, by simp [size_madeCells], by simp⟩⟩
      clear hrun
      generalize w4.alloc (.cells (madeCells #[.int .u32 0] (uint bs).1.toNat) 23) = w5 at B0 O0 hrun'
      refine ⟨⟨some ⟨w4.heap.size, 0, none⟩, 0, (uint bs).1.toNat⟩, w5, hrun', ?_⟩
      refine ⟨fun st wr => ∃ A i : Nat, ∃ nx acc, st.1 = (A : Int) ∧ st.2.2.1 = nx ∧ st.2.2.2 = (i : Int) ∧ A ≤ bs.length ∧ 0 ≤ nx ∧ nx ≤ 4294967296 ∧ i ≤ (uint bs).1.toNat ∧ acc.length = i ∧ getF bs ((uint bs).1.toNat - i) A nx acc = getS bs ∧ Own E4 23 w4.heap.size wr st.2.1 acc ∧ Below w4.heap.size w4 wr, fun st _ => ((uint bs).1 - st.2.2.2).toNat, ⟨(uint bs).2.toNat, 0, 0, [], by (try dsimp only); omega, rfl, rfl, by omega, by omega, by omega, by omega, rfl, by rw [hg]; rfl, O0, B0⟩, ?_⟩
      rintro ⟨_, out, _, _⟩ wr ⟨A, i, nx, acc, rfl, rfl, rfl, hA, n0, n1, hi', hacc, he, ho, hb⟩
      dsimp only at ho n0 n1 he
      rename_i nx
      unfold F33_l1
      refine ⟨fun hlt => ?_, fun hge => ?_⟩
      · obtain ⟨v1, v2, v3, v4, v5, v6⟩ := uint_range (bys_drop hbs A)
        rw [show (uint bs).1.toNat - i = ((uint bs).1.toNat - (i + 1)) + 1 by omega, getF] at he
        rw [List.length_drop] at v5
        refine ⟨⟨_, _, _⟩, cut_lo (w := wr) ty22 b _ A rfl (by omega), (C71 ((h.drop A hA).below hb) (bys_drop hbs A)).mono ?_⟩
        rintro _ w9 ⟨_, _, rfl, rfl, rfl, rfl⟩
        refine ⟨_, _, rfl, fun z0 => ?_, fun z0 => ⟨fun z1 => ?_, fun z1 => ?_⟩⟩
        · rw [if_pos z0] at he; rw [← he]; exact ⟨Own.nil, rfl, hb⟩
        · rw [if_neg z0, if_pos z1] at he; rw [← he]; exact ⟨Own.nil, rfl, hb⟩
        · rw [w_u64 (n := nx + (uint (bs.drop A)).1) (by omega) (by omega)]
          refine ⟨fun z2 => ?_, fun z2 => ?_⟩
          · rw [if_neg z0, if_neg z1, if_pos z2] at he; rw [← he]; exact ⟨Own.nil, rfl, hb⟩
          · rw [if_neg z0, if_neg z1, if_neg z2] at he
            rw [w_u32 (by omega) (by omega)]
            refine push1 hb ho _ (by omega) (fun out' wq' ho' hb' => ?_)
            rw [w_i64 (by omega) (by omega), w_u64 (n := (uint (bs.drop A)).1 + 1) (by omega) (by omega), w_u64 (by omega) (by omega), w_u64 (by omega) (by omega)]
            exact ⟨⟨A + (uint (bs.drop A)).2.toNat, i + 1, nx + (uint (bs.drop A)).1 + 1, _, by (try dsimp only); omega, by (try dsimp only); omega, by (try dsimp only); omega, by omega, by omega, by omega, by omega, by simp [hacc], he, ho', hb'⟩, by (try dsimp only); omega⟩
      · have : (uint bs).1.toNat - i = 0 := by omega
        rw [this, getF] at he
        rw [← he]
        exact ⟨ho, rfl, hb⟩
end
end Go.Proofs.Ytjgijifankaglaa
