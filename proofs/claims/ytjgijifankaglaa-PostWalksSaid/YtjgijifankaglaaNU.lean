/- Contracts of the other functions of package num and of its reference. -/
import Derived.Test.YtjgijifankaglaaNT
namespace Go.Proofs.Ytjgijifankaglaa
open Go Go.RowKit Go.Proofs.Ytjgijifankaglaa.SX
set_option linter.unusedVariables false

theorem rd_cut {b : Sl} {xs : List Int} {w : World} (hr : Rd B8 w b xs) (lo hi : Int) (l h : Nat) (hlo : lo = l) (hhi : hi = h) (hlh : l ≤ h) (hc : h ≤ xs.length) :
    ∃ s : Sl, (∀ w' : World, (Instr.sliceAt 33 (.slice b.a b.n b.c) (some (.int .i64 lo)) (some (.int .i64 hi)) none).run Try.prog w' = .ok (.slice s.a s.n s.c) w') ∧ Rd B8 w s ((xs.take h).drop l) := by
  have h1 := hr.len
  have h2 := hr.2.1
  exact ⟨⟨_, _, _⟩, fun w' => cut_run ty22 b lo hi l h hlo hhi hlh (by omega), hr.mid l h hlh hc⟩
theorem rd_hi {b : Sl} {xs : List Int} {w : World} (hr : Rd B8 w b xs) (hi : Int) (h : Nat) (hhi : hi = h) (hc : h ≤ xs.length) :
    ∃ s : Sl, (∀ w' : World, (Instr.sliceAt 33 (.slice b.a b.n b.c) none (some (.int .i64 hi)) none).run Try.prog w' = .ok (.slice s.a s.n s.c) w') ∧ Rd B8 w s (xs.take h) := by
  have h1 := hr.len
  have h2 := hr.2.1
  exact ⟨⟨_, _, _⟩, fun w' => cut_hi ty22 b hi h hhi (by omega), hr.take h hc⟩
theorem rd_str {b : Sl} {xs : List Int} {w : World} (hr : Rd B8 w b xs) : (convert 33 9 (.slice b.a b.n b.c)).run Try.prog w = .ok (.string (strOfNums xs)) w := by
  have h1 := hr.len
  rcases Nat.eq_zero_or_pos b.n with h0 | h0
  · obtain rfl : xs = [] := List.eq_nil_of_length_eq_zero (by omega)
    rw [run_convert_bytes_string w 33 9 5 _ _ _ Try.underlying33 Try.underlying5 Try.underlying9, h0]
    rcases b.a with _ | a
    · simp [Conv.bytesToString]; rfl
    · have := run_bytesToString w a 0 b.c [] (run_loadCells_list (P := Try.prog) w a [] (by simp))
      exact this
  · obtain ⟨a, ha, hc⟩ := hr.2.2.2 h0
    rw [run_convert_bytes_string w 33 9 5 _ _ _ Try.underlying33 Try.underlying5 Try.underlying9, ha]
    have hl := run_loadCells_list (P := Try.prog) w a (xs.map B8) (fun j v hj => by
      have hjl : j < xs.length := by
        have := (List.getElem?_eq_some_iff.1 hj).1
        simpa using this
      rw [hc j hjl]
      simpa [hjl] using hj)
    simp only [List.length_map, h1] at hl
    rw [run_bytesToString w a b.n b.c _ hl, foldl_push_bytes]
    simp [strOfNums, ByteArray.empty, ByteArray.emptyWithCapacity]
    rfl
theorem uv_pos (n : Nat) : 0 < (uv n).length := by
  by_cases h : n < 128
  · rw [uv_lt h]; simp
  · rw [uv_ge h]; simp

theorem F70_spec {b : Sl} {xs : List Int} {n : Nat} {K : Sl → World → Prop} {w : World} (hr : Rd B8 w b xs) (hl : xs.length + 10 ≤ 140737488355328) (hn : n < 18446744073709551616)
    (hK : ∀ s w', Own B8 5 w.heap.size w' s (xs ++ uv n) → Below w.heap.size w w' → K s w') : F70 b n K w := by
  unfold F70
  obtain ⟨s1, w1, h1, ho1, hb1⟩ := ap_nil (ty := 33) ty22 b8one hr (by omega)
  refine ⟨s1, w1, h1, ?_⟩
  refine ⟨fun s wr => ∃ (N : Nat) (ys : List Int), s.1 = (N : Int) ∧ N < 18446744073709551616 ∧ ys ++ uv N = uv n ∧ Own B8 5 w.heap.size wr s.2 (xs ++ ys) ∧ Below w.heap.size w wr, fun s _ => s.1.toNat, ⟨n, [], rfl, hn, rfl, by simpa using ho1, hb1⟩, ?_⟩
  rintro ⟨_, out⟩ wr ⟨N, ys, rfl, hN, he, ho, hb⟩
  dsimp only at ho
  unfold F70_l1
  have hyl : ys.length ≤ 9 := by
    have h2 := uv_len10 hn
    have h3 := uv_pos N
    rw [← he] at h2
    simp at h2; omega
  refine ⟨fun h128 => ?_, fun h128 => ?_⟩
  · rintro _ rfl
    have e1 : IntKind.u8.wrap (IntKind.u64.wrap ((Int.tmod (N : Int) 128) + 128)) = ((N % 128 + 128 : Nat) : Int) := by
      rw [tm (by omega), w_u64 (by omega) (by omega), w_u8 (by omega) (by omega)]; omega
    rw [e1]
    obtain ⟨s2, w2, h1, h2⟩ := ap_one (ty := 33) (w := wr) ty22 b8one ho ((N % 128 + 128 : Nat) : Int) hb.size (by simp; omega)
    refine ⟨s2, w2, h1, ⟨N / 128, ys ++ [((N % 128 + 128 : Nat) : Int)], ?_, by omega, ?_, ?_, h2.below ho hb.size hb⟩, ?_⟩
    · show IntKind.u64.wrap (Int.tdiv (N : Int) 128) = _
      rw [td (by omega), w_u64 (by omega) (by omega)]; rfl
    · rw [← he, uv_ge (n := N) (by omega)]; simp
    · rw [← List.append_assoc]; exact h2.own
    · show (IntKind.u64.wrap (Int.tdiv (N : Int) 128)).toNat < ((N : Int)).toNat
      rw [td (by omega), w_u64 (by omega) (by omega)]; omega
  · rintro _ rfl
    rw [w_u8 (by omega) (by omega)]
    obtain ⟨s2, w2, h1, h2⟩ := ap_one (ty := 33) (w := wr) ty22 b8one ho (N : Int) hb.size (by simp; omega)
    refine ⟨s2, w2, h1, hK _ _ ?_ (h2.below ho hb.size hb)⟩
    rw [← he, uv_lt (by omega), ← List.append_assoc]
    exact h2.own
theorem C70 {b : Sl} {xs : List Int} {n : Nat} {m : Int} {K : Sl → World → Prop} {w : World} (hm : m = n) (hr : Rd B8 w b xs) (hl : xs.length + 10 ≤ 140737488355328) (hn : n < 18446744073709551616)
    (hK : ∀ s w', Own B8 5 w.heap.size w' s (xs ++ uv n) → Below w.heap.size w w' → K s w') : Calls Try.prog 70 #[.slice b.a b.n b.c, .int .u64 m] w (fun e w1 => ∃ (r0 : Sl), e = .returned (.slice r0.a r0.n r0.c : Value) ∧ K r0 w1) := by
  subst hm; exact F70_sound _ _ _ _ (F70_spec hr hl hn hK)

end Go.Proofs.Ytjgijifankaglaa
