/- The law BitsBack, walked: what was put is got. -/
import Derived.Test.YthhcaaellhdkiaaCK
import Derived.Test.YthhcaaellhdkiaaGB9
namespace Go.Proofs.Ythhcaaellhdkiaa
open Go Go.RowKit Go.Proofs.Ythhcaaellhdkiaa.SX
set_option linter.unusedVariables false

/-! ### the bits of a row's bytes -/
theorem bo_low (a v n : Nat) : bo (a * 2 ^ n + v) n = bo v n := by
  suffices h : ∀ k, k ≤ n → bo (a * 2 ^ n + v) k = bo v k from h n (Nat.le_refl _)
  intro k
  induction k with
  | zero => intro _; rfl
  | succ k ih =>
    intro hk
    simp only [bo, ih (by omega)]
    congr 2
    have e : a * 2 ^ n = 2 ^ k * (a * 2 ^ (n - k - 1) * 2) := by
      have : 2 ^ n = 2 ^ k * 2 ^ (n - k - 1) * 2 := by rw [← Nat.pow_add, ← Nat.pow_succ]; congr 1; omega
      rw [this]; simp only [Nat.mul_assoc, Nat.mul_left_comm]
    rw [e, Nat.mul_add_div (Nat.two_pow_pos _)]
    omega
theorem bo_num (p : List Bool) : bo (num p) p.length = p := by
  induction p with
  | nil => rfl
  | cons b l ih =>
    have hl := num_lt l
    simp only [num, List.length_cons, bo]
    rw [bo_low, ih, Nat.mul_comm, Nat.mul_add_div (Nat.two_pow_pos _), Nat.div_eq_of_lt hl]
    cases b <;> simp
theorem bo_zero (n : Nat) : bo 0 n = List.replicate n false := by
  induction n with
  | zero => rfl
  | succ n ih => simp [bo, ih, List.replicate_succ]
theorem bo_pad (p : List Bool) (r : Nat) : bo (num p * 2 ^ r) (p.length + r) = p ++ List.replicate r false := by
  rw [bo_append _ _ p.length (by omega), Nat.add_sub_cancel_left, Nat.mul_div_cancel _ (Nat.two_pow_pos r), bo_num]
  have := bo_low (num p) 0 r
  rw [Nat.add_zero] at this
  rw [this, bo_zero]
theorem byteAt_next (l : List Bool) (j : Nat) : byteAt l (j + 1) = byteAt (l.drop 8) j := by
  unfold byteAt
  rw [List.drop_drop, show 8 * (j + 1) = 8 + 8 * j by omega]
theorem pk_cons (l : List Bool) (h : 0 < l.length) : pk l = (byteAt l 0 : Int) :: pk (l.drop 8) := by
  unfold pk
  rw [show (l.length + 7) / 8 = ((l.drop 8).length + 7) / 8 + 1 by simp; omega, List.range_succ_eq_map, List.map_cons, List.map_map]
  congr 1
  apply List.map_congr_left
  intro j _
  simp [byteAt_next]
theorem unp_pk (l : List Bool) : unp (pk l) = l ++ List.replicate (8 * ((l.length + 7) / 8) - l.length) false := by
  suffices h : ∀ n (l : List Bool), l.length ≤ n → unp (pk l) = l ++ List.replicate (8 * ((l.length + 7) / 8) - l.length) false from h l.length l (Nat.le_refl _)
  intro n
  induction n with
  | zero =>
    intro l h
    obtain rfl : l = [] := List.eq_nil_of_length_eq_zero (by omega)
    rfl
  | succ n ih =>
    intro l h
    rcases Nat.eq_zero_or_pos l.length with h0 | h0
    · obtain rfl : l = [] := List.eq_nil_of_length_eq_zero (by omega)
      rfl
    · rw [pk_cons l h0]
      simp only [unp, Int.toNat_natCast]
      rw [ih (l.drop 8) (by simp; omega)]
      have hb : bo (byteAt l 0) 8 = l.take 8 ++ List.replicate (8 - (l.take 8).length) false := by
        have h8 : (l.take 8).length ≤ 8 := by simp; omega
        have := bo_pad (l.take 8) (8 - (l.take 8).length)
        rw [Nat.add_sub_cancel' h8] at this
        unfold byteAt
        simpa using this
      rw [hb]
      rcases Nat.lt_or_ge l.length 8 with h8 | h8
      · rw [List.take_of_length_le (by omega), List.drop_eq_nil_of_le (by omega)]
        simp
        congr 1; omega
      · have e : (l.take 8).length = 8 := by simp; omega
        rw [e]
        simp only [Nat.sub_self, List.replicate_zero, List.append_nil, List.length_drop]
        rw [← List.append_assoc, List.take_append_drop]
        congr 2; omega

/-! ### the numbers that were put -/
def catb (vs ns : List Int) : Nat → List Bool
  | 0 => []
  | k + 1 => catb vs ns k ++ bo (vs.getD k 0).toNat (cl (ns.getD k 0))
theorem cl_le (n : Int) : cl n ≤ 64 := by unfold cl; omega
theorem catb_len (vs ns : List Int) (k : Nat) : (catb vs ns k).length ≤ 64 * k := by
  induction k with
  | zero => simp [catb]
  | succ k ih =>
    have := cl_le (ns.getD k 0)
    simp only [catb, List.length_append, bo_len]; omega
theorem catb_split (vs ns : List Int) (i : Nat) : ∀ k, i < k → ∃ rest, catb vs ns k = catb vs ns i ++ (bo (vs.getD i 0).toNat (cl (ns.getD i 0)) ++ rest)
  | 0, h => by omega
  | k + 1, h => by
    rcases Nat.lt_or_ge i k with h' | h'
    · obtain ⟨rest, hr⟩ := catb_split vs ns i k h'
      exact ⟨rest ++ bo (vs.getD k 0).toNat (cl (ns.getD k 0)), by simp only [catb, hr, List.append_assoc]⟩
    · obtain rfl : i = k := by omega
      exact ⟨[], by simp [catb]⟩
theorem mask_u64 {x k : Nat} (hx : x < 18446744073709551616) (hk : k < 64) : ibits .and .u64 (x : Int) (IntKind.u64.wrap (ishl .u64 1 (k : Int) - 1)) = ((x % 2 ^ k : Nat) : Int) := by
  have hp : 2 ^ k ≤ 2 ^ 63 := Nat.pow_le_pow_right (by omega) (by omega)
  have hp0 := Nat.two_pow_pos k
  have h1 := shl_u64 (x := 1) (k := k) (by omega) (by omega)
  rw [Nat.one_mul] at h1
  rw [show (1 : Int) = ((1 : Nat) : Int) from rfl, h1, w_u64 (by omega) (by omega), show ((2 ^ k : Nat) : Int) - ((1 : Nat) : Int) = ((2 ^ k - 1 : Nat) : Int) by omega,
    ib_and .u64 rfl (by simpa [IntKind.bits] using hx) (by simp only [IntKind.bits]; omega), Nat.and_two_pow_sub_one_eq_mod]

abbrev U64 (x : Int) : Value := .int .u64 x
theorem l5_eq : @F9_l5 = @F9_l2 := rfl
theorem l8_eq : @F9_l8 = @F9_l2 := rfl
theorem cl_if (n : Int) : (if (if n < 64 then n else 64) > 0 then (if n < 64 then n else 64) else 0) = (cl n : Int) := by unfold cl; split <;> split <;> omega
theorem getD_of {l : List Int} {i : Nat} (h : i < l.length) : l.getD i 0 = l[i] := by simp [List.getD, List.getElem?_eq_getElem h]
theorem F9_tail {W wr : World} {o : Addr} {v n : Sl} {vs ns : List Int} {k : Nat} (h : WB W wr o (catb vs ns k)) (hk1 : k ≤ vs.length) (hk2 : k ≤ ns.length) (hk3 : k ≤ 1000) (hv : Rd U64 W v vs) (hvr : ∀ x ∈ vs, 0 ≤ x ∧ x < 18446744073709551616) (hn : Rd I64 W n ns) :
    Calls Try.prog 46 #[.pointer (some o)] wr fun e w_24 => ∃ (t75_23 : Sl), e = .returned (.slice t75_23.a t75_23.n t75_23.c : Value) ∧
      Calls Try.prog 37 #[.slice t75_23.a t75_23.n t75_23.c] w_24 fun e w_26 => ∃ (t77_25 : Option Addr), e = .returned (.pointer t77_25 : Value) ∧
        ((t77_25.isNone = true → false = true ∧ Below W.heap.size W w_26) ∧ (t77_25.isNone = false →
          ((¬ (((t75_23.n : Int))) = ((IntKind.i64.wrap (Int.tdiv (IntKind.i64.wrap (((catb vs ns k).length : Int) + 7)) 8))) → false = true ∧ Below W.heap.size W w_26) ∧
          ((((t75_23.n : Int))) = ((IntKind.i64.wrap (Int.tdiv (IntKind.i64.wrap (((catb vs ns k).length : Int) + 7)) 8))) → kLoop (F9_l2 v n (fun r w1 => r = true ∧ Below W.heap.size W w1) (k : Int) t77_25) (0) w_26)))) := by
  have hL := catb_len vs ns k
  have hvn := hv.1
  have hnn := hn.1
  refine (h.bytes (by omega)).mono ?_
  rintro _ w24 ⟨s, rfl, os, b24, h24⟩
  have hsn := os.len
  rw [pk_len] at hsn
  have hxb := pk_bys (catb vs ns k)
  have hxl := pk_len (catb vs ns k)
  refine ⟨s, rfl, (RB.new h24.bel os.rd (by omega)).mono ?_⟩
  rintro _ w26 ⟨_, rfl, q, rfl, r26, _⟩
  rw [w_i64 (n := ((catb vs ns k).length : Int) + 7) (by omega) (by omega), td (by omega), w_i64 (by omega) (by omega)]
  refine ⟨_, rfl, (fun h => nomatch h), fun _ => ⟨fun hne => absurd (by omega) hne, fun _ => ?_⟩⟩
  have hup := unp_pk (catb vs ns k)
  have hul := unp_len (pk (catb vs ns k))
  refine ⟨fun i wq => ∃ j : Nat, i = (j : Int) ∧ j ≤ k ∧ RB W wq q (pk (catb vs ns k)) (catb vs ns j).length, fun i _ => ((k : Int) - i).toNat, ⟨0, rfl, by omega, r26⟩, ?_⟩
  rintro _ wq ⟨j, rfl, hj, rq⟩
  unfold F9_l2
  refine ⟨fun hlt => ?_, fun hge => ?_⟩
  · have hjk : j < k := by omega
    obtain ⟨rest, hsp⟩ := catb_split vs ns j k hjk
    have hjn := getD_of (l := ns) (i := j) (by omega)
    have hjv := getD_of (l := vs) (i := j) (by omega)
    rw [hjn, hjv] at hsp
    have hlen := congrArg List.length hsp
    simp only [List.length_append, bo_len] at hlen
    have hvj := hvr vs[j] (List.getElem_mem (by omega))
    obtain ⟨a, ha, hcell⟩ := (hn.below rq.bel).at j (by omega)
    have hcl := cl_le ns[j]
    have hget : rget (unp (pk (catb vs ns k))) (catb vs ns j).length (cl ns[j] : Int) = (vs[j].toNat % 2 ^ cl ns[j], true, (catb vs ns (j + 1)).length) := by
      unfold rget
      rw [if_pos (by omega)]
      simp only [Int.toNat_natCast]
      have e : ((unp (pk (catb vs ns k))).drop (catb vs ns j).length).take (cl ns[j]) = bo vs[j].toNat (cl ns[j]) := by
        rw [hup, hsp]
        simp only [List.append_assoc]
        rw [List.drop_left' rfl, List.take_left' (bo_len _ _)]
      rw [e, num_bo]
      simp only [catb, hjn, hjv, List.length_append, bo_len]
    refine ⟨by omega, by omega, a, ha, _, hcell, ?_⟩
    simp only [cl_if]
    refine (rq.get (n := (cl ns[j] : Int)) hxb (by omega) (by omega)).mono ?_
    rw [hget]
    rintro _ w33 ⟨_, _, rfl, rfl, rfl, r33⟩
    obtain ⟨a', ha', hcell'⟩ := (hv.below r33.bel).at j (by omega)
    refine ⟨_, _, rfl, by omega, by omega, a', ha', _, hcell', fun h64 => ?_, fun h64 => ?_⟩
    · refine ⟨by omega, by omega, a', ha', _, hcell', by omega, ?_⟩
      rintro _ ⟨m, rfl⟩
      have hm := mask_u64 (x := vs[j].toNat) (k := cl ns[j]) (by omega) (by omega)
      rw [Int.toNat_of_nonneg hvj.1] at hm
      rw [hm]
      unfold F9_j3
      refine ⟨(fun h => nomatch h), fun _ => ⟨fun h => absurd rfl h, fun _ => ?_⟩⟩
      rw [w_i64 (by omega) (by omega)]
      exact ⟨⟨j + 1, by omega, by omega, r33.below (below_draw (Below.refl _ _) m)⟩, by omega⟩
    · have h64' : cl ns[j] = 64 := by omega
      have e : ((vs[j].toNat % 2 ^ cl ns[j] : Nat) : Int) = vs[j] := by
        rw [h64', Nat.mod_eq_of_lt (by omega)]; omega
      unfold F9_j3
      refine ⟨(fun h => nomatch h), fun _ => ⟨fun h => absurd e h, fun _ => ?_⟩⟩
      rw [w_i64 (by omega) (by omega)]
      exact ⟨⟨j + 1, by omega, by omega, r33⟩, by omega⟩
  · obtain rfl : j = k := by omega
    refine (rq.left (by omega) (by omega)).mono ?_
    rintro _ w42 ⟨_, rfl, rfl, r42, _⟩
    have hget : rget (unp (pk (catb vs ns j))) (catb vs ns j).length (8 * ((pk (catb vs ns j)).length : Int) - (catb vs ns j).length) = (0, true, 8 * (pk (catb vs ns j)).length) := by
      unfold rget
      rw [if_pos (by omega)]
      have e : num (((unp (pk (catb vs ns j))).drop (catb vs ns j).length).take (8 * ((pk (catb vs ns j)).length : Int) - (catb vs ns j).length).toNat) = 0 := by
        rw [hup, List.drop_left' rfl, List.take_of_length_le (by simp; omega), ← bo_zero, num_bo]; simp
      rw [e]
      congr 2
      omega
    refine ⟨_, rfl, (r42.get (n := 8 * ((pk (catb vs ns j)).length : Int) - (catb vs ns j).length) hxb (by omega) (by omega)).mono ?_⟩
    rw [hget]
    rintro _ w45 ⟨_, _, rfl, rfl, rfl, r45⟩
    refine ⟨_, _, rfl, fun _ => ⟨fun _ => ⟨fun _ => ?_, fun h => nomatch h⟩, fun h => absurd (by omega) h⟩, fun h => absurd (by omega) h⟩
    unfold F9_j4
    exact ⟨rfl, r45.bel⟩
theorem F9_spec {w : World} {v n : Sl} {loose : Int} {vs ns : List Int} (hv : Rd U64 w v vs) (hvr : ∀ x ∈ vs, 0 ≤ x ∧ x < 18446744073709551616) (hn : Rd I64 w n ns) (hl0 : 0 ≤ loose) (hl1 : loose < 18446744073709551616) :
    F9 v n loose (fun r w1 => r = true ∧ Below w.heap.size w w1) w := by
  unfold F9
  have hvn := hv.1
  have hnn := hn.1
  refine (C32 w).mono ?_
  rintro _ w5 ⟨_, rfl, rfl, b5⟩
  refine ⟨_, rfl, (WB.new b5).mono ?_⟩
  rintro _ w7 ⟨_, rfl, o, rfl, h7⟩
  refine ⟨_, rfl, (fun h => nomatch h), fun _ => ⟨(fun h => nomatch h), fun _ => ?_⟩⟩
  refine ⟨fun st wr => ∃ k : Nat, st = (((catb vs ns k).length : Int), (k : Int)) ∧ k ≤ vs.length ∧ k ≤ ns.length ∧ k ≤ 1000 ∧ WB w wr o (catb vs ns k), fun st _ => (1000 - st.2).toNat, ⟨0, rfl, by omega, by omega, by omega, h7⟩, ?_⟩
  rintro _ wr ⟨k, rfl, hk1, hk2, hk3, hw⟩
  have hL := catb_len vs ns k
  unfold F9_l1
  rw [l5_eq, l8_eq]
  have tail := F9_tail hw hk1 hk2 hk3 hv hvr hn
  refine ⟨fun h1 => ⟨fun h2 => ⟨fun h3 => ?_, fun _ => tail⟩, fun _ => tail⟩, fun _ => tail⟩
  rintro _ rfl
  have hw' : WB w wr.drew o (catb vs ns k) := hw.below (below_draw (Below.refl _ _) 1)
  obtain ⟨a, ha, hcell⟩ := (hv.below hw'.bel).at k (by omega)
  obtain ⟨a2, ha2, hcell2⟩ := (hn.below hw'.bel).at k (by omega)
  have hvk := hvr vs[k] (List.getElem_mem (by omega))
  refine ⟨by omega, by omega, a, ha, _, hcell, by omega, by omega, a2, ha2, _, hcell2, (hw'.put (n := ns[k]) (by omega) hvk.1 hvk.2).mono ?_⟩
  rintro _ w16 ⟨rfl, h16⟩
  have e16 : catb vs ns k ++ bo vs[k].toNat (cl ns[k]) = catb vs ns (k + 1) := by
    simp only [catb]; rw [getD_of (by omega), getD_of (by omega)]
  rw [e16] at h16
  have hL' := catb_len vs ns (k + 1)
  have hlen : (catb vs ns (k + 1)).length = (catb vs ns k).length + cl ns[k] := by rw [← e16, List.length_append, bo_len]
  obtain ⟨a3, ha3, hcell3⟩ := (hn.below h16.bel).at k (by omega)
  refine ⟨rfl, by omega, by omega, a3, ha3, _, hcell3, (h16.put (n := 64) (by omega) hl0 hl1).mono ?_⟩
  rintro _ w19 ⟨rfl, h19⟩
  refine ⟨rfl, h19.len.mono ?_⟩
  rintro _ w21 ⟨_, rfl, rfl, rfl⟩
  simp only [cl_if]
  rw [w_i64 (n := ((catb vs ns k).length : Int) + cl ns[k]) (by omega) (by omega), w_i64 (n := ((catb vs ns k).length : Int) + cl ns[k] + 64) (by omega) (by omega)]
  have hl64 : (catb vs ns (k + 1) ++ bo loose.toNat (cl 64)).length = (catb vs ns (k + 1)).length + 64 := by rw [List.length_append, bo_len]; rfl
  refine ⟨_, rfl, fun h => absurd (by omega) h, fun _ => (h19.cut (n := ((catb vs ns k).length : Int) + cl ns[k]) (by omega) (by omega)).mono ?_⟩
  rintro _ w22 ⟨rfl, h22⟩
  have ecut : (catb vs ns (k + 1) ++ bo loose.toNat (cl 64)).take (((catb vs ns k).length : Int) + cl ns[k]).toNat = catb vs ns (k + 1) := by
    rw [List.take_left' (by omega)]
  rw [ecut] at h22
  rw [w_i64 (n := (k : Int) + 1) (by omega) (by omega)]
  refine ⟨rfl, ⟨k + 1, by rw [hlen]; rfl, by omega, by omega, by omega, h22⟩, by omega⟩
end Go.Proofs.Ythhcaaellhdkiaa
