/- The law's lent: the same bytes, and eight of 201 behind them. -/
import Derived.Test.YtjgijifankaglaaSU
namespace Go.Proofs.Ytjgijifankaglaa
open Go Go.RowKit Go.Proofs.Ytjgijifankaglaa.SX
set_option linter.unusedVariables false

theorem C39 {w : World} {b : Sl} {bs : List Int} (hb : Rd B8 w b bs) (hlen : bs.length ≤ 100000000) : Calls Try.prog 39 #[.slice b.a b.n b.c] w (fun e w1 => ∃ (r0 : Sl), e = .returned (.slice r0.a r0.n r0.c) ∧ (Own B8 5 w.heap.size w1 r0 (bs ++ List.replicate 8 201) ∧ Below w.heap.size w w1)) := by
  refine F39_sound b (fun r0 w1 => Own B8 5 w.heap.size w1 r0 (bs ++ List.replicate 8 201) ∧ Below w.heap.size w w1) w ?_
  unfold F39
  have hbn := hb.1
  have e1 : IntKind.i64.wrap ((b.n : Int) + 8) = ((bs.length + 8 : Nat) : Int) := by rw [w_i64 (by omega) (by omega)]; omega
  rw [e1]
  obtain ⟨s, w3, r3, o3, b3⟩ : ∃ (s : Sl) (w3 : World), (Instr.makeSlice 33 (.int .i64 ((bs.length + 8 : Nat) : Int)) (.int .i64 ((bs.length + 8 : Nat) : Int))).run Try.prog w = .ok (.slice s.a s.n s.c) w3 ∧ Own B8 5 w.heap.size w3 s (List.replicate (bs.length + 8) 0) ∧ Below w.heap.size w w3 :=
    ⟨⟨_, _, _⟩, _, mk_own (P := Try.prog) (w := w) (enc := B8) ty22 (x := 0) rfl ((bs.length + 8 : Nat) : Int) ((bs.length + 8 : Nat) : Int) (bs.length + 8) (bs.length + 8) rfl rfl (Nat.le_refl _) (by omega) (by simp only [maxLen]; omega)⟩
  refine ⟨s, w3, r3, ?_⟩
  obtain ⟨k, w5, r5, hk, o5, g5⟩ := cp_own (P := Try.prog) (ty := 3) ty22 b8one o3 (hb.below b3)
  refine ⟨k, w5, r5, ?_⟩
  have b5 := b3.grown g5 b3.size (fun j hj => (o3.blk_ge j hj).1)
  have hx : bs.take (List.replicate (bs.length + 8) (0 : Int)).length ++ (List.replicate (bs.length + 8) (0 : Int)).drop bs.length = bs ++ List.replicate 8 0 := by
    rw [List.length_replicate, List.take_of_length_le (by omega), List.drop_replicate, Nat.add_sub_cancel_left]
  rw [hx] at o5
  have hsn := o5.len
  rw [List.length_append, List.length_replicate] at hsn
  refine ⟨fun st wr => ∃ j : Nat, st = ((bs.length + j : Nat) : Int) ∧ j ≤ 8 ∧ Own B8 5 w.heap.size wr s (bs ++ (List.replicate j 201 ++ List.replicate (8 - j) 0)) ∧ Below w.heap.size w wr, fun st _ => (s.n - st).toNat, ⟨0, by omega, by omega, by simpa using o5, b5⟩, ?_⟩
  rintro _ wr ⟨j, rfl, hj, ho, hw⟩
  unfold F39_l1
  refine ⟨fun hlt => ?_, fun hge => ?_⟩
  · have hj8 : j < 8 := by omega
    obtain ⟨a, ha, hblk, hcell, o2, g2⟩ := ho.set (bs.length + j) (by rw [List.length_append, List.length_append, List.length_replicate, List.length_replicate]; omega) 201
    refine ⟨by omega, hlt, a, ha, by rw [Int.toNat_natCast]; exact hcell, ?_⟩
    rw [Int.toNat_natCast]
    rintro _ rfl
    rw [w_i64 (by omega) (by omega)]
    refine ⟨⟨j + 1, by omega, by omega, ?_, hw.grown g2 hw.size (fun k hk => (ho.blk_ge k hk).1)⟩, by (try dsimp only); omega⟩
    have e : (bs ++ (List.replicate j (201 : Int) ++ List.replicate (8 - j) 0)).set (bs.length + j) 201 = bs ++ (List.replicate (j + 1) 201 ++ List.replicate (8 - (j + 1)) 0) := by
      rw [List.set_append_right _ _ (by omega), Nat.add_sub_cancel_left, List.set_append_right _ _ (by rw [List.length_replicate]; exact Nat.le_refl _), List.length_replicate, Nat.sub_self, show 8 - j = (8 - (j + 1)) + 1 by omega, List.replicate_succ, List.set_cons_zero, List.replicate_succ' (n := j)]
      simp
    rw [e] at o2
    exact o2
  · have hj8 : j = 8 := by omega
    subst hj8
    exact ⟨by simpa using ho, hw⟩
end Go.Proofs.Ytjgijifankaglaa
