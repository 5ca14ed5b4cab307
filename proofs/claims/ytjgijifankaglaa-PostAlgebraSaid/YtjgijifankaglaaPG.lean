/- The document's Get; strings. -/
import Derived.Test.YtjgijifankaglaaPF
namespace Go.Proofs.Ytjgijifankaglaa
open Go Go.RowKit Go.Proofs.Ytjgijifankaglaa.SX
set_option linter.unusedVariables false
section
variable {w wr : World} {a b s out : Sl} {xs ys bs acc : List Int}
theorem j34 {K : Sl → Int → World → Prop} {next : (Int × Sl × Int) → World → Prop} {A i m : Nat} {M d : Int} (hb : Below w.heap.size w wr) (ho : Own E4 23 w.heap.size wr out acc) (hl : acc.length ≤ 1000000000) (hM : M = m) (hA : A + m ≤ 1000000000) (hi : i ≤ 1000000000) (hd : 0 ≤ d)
    (h1 : d > 4294967295 → K ⟨none, 0, 0⟩ 0 wr) (h2 : ¬ d > 4294967295 → ∀ out' w', Own E4 23 w.heap.size w' out' (acc ++ [d]) → Below w.heap.size w w' → next (((A + m : Nat) : Int), out', ((i + 1 : Nat) : Int)) w') : F34_j2 K A out i next M d wr := by
  unfold F34_j2
  refine ⟨h1, fun h => ?_⟩
  rw [w_u32 hd (by omega)]
  refine push1 hb ho _ (by omega) (fun out' wq' ho' hb' => ?_)
  rw [w_i64 (by omega) (by omega), w_u64 (by omega) (by omega), hM]
  exact h2 h out' wq' ho' hb'
theorem C34 (h : Rd B8 w b bs) (hbs : bys bs) (hlb : bs.length ≤ 1000000) : Calls Try.prog 34 #[.slice b.a b.n b.c] w (fun e w1 => ∃ (r0 : Sl), ∃ (r1 : Int), e = .returned (.tuple #[.slice r0.a r0.n r0.c, .int .i64 r1]) ∧ (Own E4 23 w.heap.size w1 r0 (getS bs).1 ∧ r1 = (getS bs).2 ∧ Below w.heap.size w w1)) := by
  refine F34_sound b (fun r0 r1 w1 => Own E4 23 w.heap.size w1 r0 (getS bs).1 ∧ r1 = (getS bs).2 ∧ Below w.heap.size w w1) w ?_
  unfold F34
  have hn := h.1
  refine (C72 h hbs).mono ?_
  rintro _ w4 ⟨_, _, rfl, rfl, rfl, rfl⟩
  obtain ⟨u1, u2, u3, u4, u5, u6⟩ := uint_range hbs
  refine ⟨_, _, rfl, fun h0 => ?_, fun h0 => ?_⟩
  · unfold getS; rw [if_pos h0]; exact ⟨Own.nil, rfl, Below.refl _ _⟩
  · rw [w_i64 (n := (b.n : Int) - (uint bs).2) (by omega) (by omega), w_u64 (by omega) (by omega)]
    refine ⟨fun h1 => ?_, fun h1 => ?_⟩
    · unfold getS; rw [if_neg h0, if_pos (by omega)]; exact ⟨Own.nil, rfl, Below.refl _ _⟩
    · have hg : getS bs = getF bs (uint bs).1.toNat (uint bs).2.toNat 0 [] := by unfold getS; rw [if_neg h0, if_neg (by omega)]
      refine ⟨fun st wr => ∃ A i : Nat, ∃ nx acc, st.1 = (A : Int) ∧ st.2.2 = (i : Int) ∧ A ≤ bs.length ∧ 0 ≤ nx ∧ nx ≤ 4294967296 ∧ i ≤ (uint bs).1.toNat ∧ acc.length = i ∧ getF bs ((uint bs).1.toNat - i) A nx acc = getS bs ∧ Own E4 23 w4.heap.size wr st.2.1 acc ∧ Below w4.heap.size w4 wr ∧ (i = 0 → nx = 0) ∧ (∀ (h : i - 1 < acc.length), acc[i - 1] = nx - 1 ∧ 1 ≤ nx), fun st _ => ((uint bs).1 - st.2.2).toNat, ⟨(uint bs).2.toNat, 0, 0, [], by (try dsimp only); omega, rfl, by omega, by omega, by omega, by omega, rfl, by rw [hg]; rfl, Own.nil, Below.refl _ _, fun _ => rfl, fun h => absurd h (by simp)⟩, ?_⟩
      rintro ⟨_, out, _⟩ wr ⟨A, i, nx, acc, rfl, rfl, hA, n0, n1, hi', hacc, he, ho, hb, hz, hlast⟩
      dsimp only at ho
      unfold F34_l1
      refine ⟨fun hlt => ?_, fun hge => ?_⟩
      · obtain ⟨v1, v2, v3, v4, v5, v6⟩ := uint_range (bys_drop hbs A)
        rw [show (uint bs).1.toNat - i = ((uint bs).1.toNat - (i + 1)) + 1 by omega, getF] at he
        rw [List.length_drop] at v5
        refine ⟨⟨_, _, _⟩, cut_lo (w := wr) ty22 b _ A rfl (by omega), (C72 ((h.drop A hA).below hb) (bys_drop hbs A)).mono ?_⟩
        rintro _ w9 ⟨_, _, rfl, rfl, rfl, rfl⟩
        refine ⟨_, _, rfl, fun z0 => ?_, fun z0 => ⟨fun z1 => ?_, fun z1 => ?_⟩⟩
        · rw [if_pos z0] at he; rw [← he]; exact ⟨Own.nil, rfl, hb⟩
        · rw [if_neg z0, if_pos z1] at he; rw [← he]; exact ⟨Own.nil, rfl, hb⟩
        · rw [if_neg z0, if_neg z1] at he
          have hol := ho.len
          have fin1 : nx + (uint (bs.drop A)).1 > 4294967295 → Own E4 23 w4.heap.size w9 ⟨none, 0, 0⟩ (getS bs).1 ∧ (0 : Int) = (getS bs).2 ∧ Below w4.heap.size w4 w9 := by
            intro z2
            rw [if_pos z2] at he; rw [← he]; exact ⟨Own.nil, rfl, hb⟩
          have fin2 : ¬ nx + (uint (bs.drop A)).1 > 4294967295 → ∀ out' w', Own E4 23 w4.heap.size w' out' (acc ++ [nx + (uint (bs.drop A)).1]) → Below w4.heap.size w4 w' → (∃ A' i' : Nat, ∃ nx acc, (((A + (uint (bs.drop A)).2.toNat : Nat) : Int)) = (A' : Int) ∧ (((i + 1 : Nat) : Int)) = (i' : Int) ∧ A' ≤ bs.length ∧ 0 ≤ nx ∧ nx ≤ 4294967296 ∧ i' ≤ (uint bs).1.toNat ∧ acc.length = i' ∧ getF bs ((uint bs).1.toNat - i') A' nx acc = getS bs ∧ Own E4 23 w4.heap.size w' out' acc ∧ Below w4.heap.size w4 w' ∧ (i' = 0 → nx = 0) ∧ (∀ (h : i' - 1 < acc.length), acc[i' - 1] = nx - 1 ∧ 1 ≤ nx)) ∧ ((uint bs).1 - ((i + 1 : Nat) : Int)).toNat < ((uint bs).1 - (i : Int)).toNat := by
            intro z2 out' w' ho' hb'
            rw [if_neg z2] at he
            refine ⟨⟨_, _, nx + (uint (bs.drop A)).1 + 1, _, rfl, rfl, by omega, by omega, by omega, by omega, by simp [hacc], he, ho', hb', fun h => by omega, fun h => ⟨?_, by omega⟩⟩, by omega⟩
            have hi1 : i + 1 - 1 = acc.length := by omega
            simp only [hi1]
            simp
          refine ⟨fun hi0 => ?_, fun hi0 => ?_⟩
          · obtain ⟨a2, ha2, hc2⟩ := ho.rd.at (i - 1) (by omega)
            obtain ⟨hl1, hl2⟩ := hlast (by omega)
            rw [w_u64 (n := (i : Int) - 1) (by omega) (by omega), show ((i : Int) - 1).toNat = i - 1 by omega]
            refine ⟨by omega, by omega, a2, ha2, _, hc2, ?_⟩
            have e : IntKind.u64.wrap (IntKind.u64.wrap ((uint (bs.drop A)).1 + IntKind.u64.wrap acc[i - 1]) + 1) = nx + (uint (bs.drop A)).1 := by
              rw [hl1, w_u64 (n := nx - 1) (by omega) (by omega), w_u64 (n := (uint (bs.drop A)).1 + (nx - 1)) (by omega) (by omega), w_u64 (by omega) (by omega)]; omega
            rw [e]
            exact j34 (m := (uint (bs.drop A)).2.toNat) hb ho (by omega) (by omega) (by omega) (by omega) (by omega) fin1 fin2
          · have hi00 : i = 0 := by omega
            have hnx := hz hi00
            have e : (uint (bs.drop A)).1 = nx + (uint (bs.drop A)).1 := by omega
            rw [show F34_j2 (fun r0 r1 w1 => Own E4 23 w4.heap.size w1 r0 (getS bs).1 ∧ r1 = (getS bs).2 ∧ Below w4.heap.size w4 w1) = F34_j2 (fun r0 r1 w1 => Own E4 23 w4.heap.size w1 r0 (getS bs).1 ∧ r1 = (getS bs).2 ∧ Below w4.heap.size w4 w1) from rfl]
            generalize hdd : (uint (bs.drop A)).1 = dd at *
            rw [hnx] at fin1 fin2
            rw [Int.zero_add] at fin1 fin2
            exact j34 (m := (uint (bs.drop A)).2.toNat) hb ho (by omega) (by omega) (by omega) (by omega) (by omega) fin1 fin2
      · have : (uint bs).1.toNat - i = 0 := by omega
        rw [this, getF] at he
        rw [← he]
        exact ⟨ho, rfl, hb⟩
end
theorem str_add {x y : Operand} {u v : ByteArray} {w : World} (h : u.size + v.size ≤ 1000000000) : (do eqGuard .add 9 x y (.string u : Value) (.string v : Value); binOp .add 9 (.string u : Value) (.string v : Value) : Sem Value).run Try.prog w = .ok (.string (u ++ v)) w := by
  have hm : IntKind.i64.max = 9223372036854775807 := by rfl
  show (Op.stringOp .add u v).run Try.prog w = _
  unfold Op.stringOp
  dsimp only
  rw [if_neg (by rw [hm]; omega)]
  rfl
theorem strOfNums_size (bs : List Int) : (strOfNums bs).size = bs.length := by unfold strOfNums; simp [ByteArray.size]
theorem str_three (bs : List Int) : strOfNums (bs ++ [1, 1, 1]) = strOfNums bs ++ ByteArray.mk #[1, 1, 1] := by
  unfold strOfNums
  apply ByteArray.ext
  rw [ByteArray.data_append]
  simp
end Go.Proofs.Ytjgijifankaglaa
