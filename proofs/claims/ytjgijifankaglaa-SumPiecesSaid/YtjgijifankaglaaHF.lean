/- The document's examples. -/
import Derived.Test.YtjgijifankaglaaHE
import Derived.Test.YtjgijifankaglaaGSg
import Derived.Test.YtjgijifankaglaaSV
import Derived.Lib.SlBytesConst
namespace Go.Proofs.Ytjgijifankaglaa
open Go Go.RowKit Go.Proofs.Ytjgijifankaglaa.SX
set_option linter.unusedVariables false

theorem rd_cells {w : World} {g e : Nat} {xs : List Int} (h : w.heap[g]? = some (.cells (xs.map B8).toArray e (0, 0))) (hl : xs.length ≤ 1000000) : Rd B8 w ⟨some ⟨g, 0, none⟩, xs.length, xs.length⟩ xs :=
  ⟨rfl, Nat.le_refl _, by simp only [maxLen]; omega, fun _ => ⟨_, rfl, fun j hj => by rw [add_lit, row_get h]; simp [hj]⟩⟩
theorem lit_slice {w w3 : World} {n : Nat} (xs : List Int) (e : w3 = w.alloc (.cells (xs.map B8).toArray 5)) (hn : n = xs.length) (hl : xs.length ≤ 1000000) :
    ∃ w5, (convert 33 33 (.slice (some ⟨w.heap.size, 0, none⟩) n n : Value)).run Try.prog w3 = .ok (.slice (some ⟨w.heap.size, 0, none⟩) n n : Value) w5 ∧ Rd B8 w5 ⟨some ⟨w.heap.size, 0, none⟩, n, n⟩ xs ∧ Below w.heap.size w w5 := by
  subst e; subst hn
  refine ⟨_, Lib.run_convert_bytes_const (P := Try.prog) w 33 5 _ _ _ Try.underlying33 Try.underlying5, ?_, below_row _ _⟩
  exact ⟨rfl, Nat.le_refl _, by simp only [maxLen]; omega, fun _ => ⟨_, rfl, fun j hj => by rw [add_lit, cell_of_row _ w.heap.size j _ 5 _ (heap_alloc_new w _)]; simp [hj]⟩⟩
theorem cut50 (g : Nat) (w : World) : (Instr.sliceAt 50 (.pointer (some ⟨g, 0, none⟩) : Value) none none none).run Try.prog w = .ok (.slice (some ⟨g, 0, none⟩) 32 32 : Value) w := by kernel_rfl
theorem sizes50 : aggT Try.prog 50 = true ∧ (Try.prog.info? 50).map (·.size) = some 32 := by constructor <;> kernel_rfl
theorem C38 (w : World) : Calls Try.prog 38 #[] w (fun e w1 => ∃ (r0 : Bool), e = .returned (.bool r0) ∧ (r0 = true ∧ Below w.heap.size w w1)) := by
  refine F38_sound (fun r0 w1 => r0 = true ∧ Below w.heap.size w w1) w ?_
  unfold F38
  refine (new_ho w).mono ?_
  rintro _ w2 ⟨_, rfl, rfl, H, B⟩
  refine ⟨_, rfl, (fun h => nomatch h), fun _ => ?_⟩
  have hg2 := H.2 _ rfl
  intro w3 e
  obtain ⟨w5, r5, h5, b5⟩ := lit_slice [97] e rfl (by simp)
  clear e
  refine ⟨⟨_, _, _⟩, w5, r5, ?_⟩
  have H := H.below b5
  have B := B.trans (b5.mono B.size)
  refine (write_ho H h5 (fun a ha _ hk => by cases ha; (try dsimp only at hk); omega) (by simp)).mono ?_
  rintro _ w6 ⟨rfl, fq, hfq, H, q⟩
  refine ⟨rfl, ?_⟩
  have hz := b5.size
  have B := B.trans (q.toBelow (B := w.heap.size) B.size (fun k hk => by (try dsimp only at hk); omega))
  have hfq : ∀ k, fq k → w.heap.size ≤ k ∧ k < w6.heap.size := fun k hk => ⟨by have := hfq k hk; (try dsimp only at this); omega, H.2 k hk⟩
  clear q h5 b5 r5
  intro w7 e
  obtain ⟨w9, r9, h9, b9⟩ := lit_slice [98, 99] e rfl (by simp)
  clear e
  refine ⟨⟨_, _, _⟩, w9, r9, ?_⟩
  have H := H.below b9
  have B := B.trans (b9.mono B.size)
  have z9 := B.size
  refine (write_ho H h9 (fun a ha _ hk => by cases ha; have := hfq _ hk; (try dsimp only at this); omega) (by simp)).mono ?_
  rintro _ w10 ⟨rfl, fr, hfr, H, q⟩
  refine ⟨rfl, ?_⟩
  have B := B.trans (q.toBelow (B := w.heap.size) B.size (fun k hk => (hfq k hk).1))
  have hfr : ∀ k, fr k → w.heap.size ≤ k := fun k hk => by
    rcases hfr k hk with h | h
    · exact (hfq k h).1
    · omega
  refine (sum_ho H (by simp)).mono ?_
  rintro _ w12 ⟨_, rfl, rfl, H, q⟩
  have B := B.trans (q.toBelow (B := w.heap.size) B.size hfr)
  refine ⟨_, rfl, ?_⟩
  have ea : ([] : List Int) ++ [97] ++ [98, 99] = [97, 98, 99] := rfl
  rw [ea]
  clear H q hfr hfq h9 b9
  intro w13 e
  have b13 : Below w12.heap.size w12 w13 := by rw [e]; exact below_row _ _
  obtain ⟨z, hz1, hzs⟩ : ∃ z, w13.heap[w12.heap.size]? = some (.cells z 50 (0, 0)) ∧ z.size = 32 := ⟨_, by rw [e]; exact heap_alloc_new w12 _, by kernel_rfl⟩
  clear e
  obtain ⟨w14, r14, h14, q14⟩ := store_all (P := Try.prog) (T := 50) (k := 32) (vs := digV (ofS KR [97, 98, 99])) hz1 sizes50.2 (digV_size _) hzs (digV_one _)
  refine ⟨w14, r14, ?_⟩
  have zB0 := B.size
  have B := B.trans (b13.mono B.size)
  have zB := B.size
  have hz12 := row_lt hz1
  have B := B.trans (q14.toBelow (B := w.heap.size) B.size (fun k hk => by (try dsimp only at hk); omega))
  clear q14 r14 hz1
  refine (C41 (w := w14) (b := ⟨none, 0, 0⟩) (bs := []) Rd.nil (by simp)).mono ?_
  rintro _ w16 ⟨_, rfl, rfl, b16⟩
  refine ⟨_, rfl, ?_⟩
  have h14 := (Gr.below (S := fun _ => False) b16).blk h14 (fun h => h)
  have B := B.trans (b16.mono B.size)
  intro w17 e
  have b17 : Below w16.heap.size w16 w17 := by rw [e]; exact below_row _ _
  obtain ⟨z, hz1, hzs⟩ : ∃ z, w17.heap[w16.heap.size]? = some (.cells z 50 (0, 0)) ∧ z.size = 32 := ⟨_, by rw [e]; exact heap_alloc_new w16 _, by kernel_rfl⟩
  clear e
  have l14 := row_lt h14
  have h14 := (Gr.below (S := fun _ => False) b17).blk h14 (fun h => h)
  obtain ⟨w18, r18, h18, q18⟩ := store_all (P := Try.prog) (T := 50) (k := 32) (vs := digV (ofS KR [])) hz1 sizes50.2 (digV_size _) hzs (digV_one _)
  refine ⟨w18, r18, ?_⟩
  have zB := B.size
  have B := B.trans (b17.mono B.size)
  have h14 := q18.blk h14 (by (try dsimp only); omega)
  have B := B.trans (q18.toBelow (B := w.heap.size) B.size (fun k hk => by (try dsimp only at hk); omega))
  clear q18 r18 hz1
  refine (C52 (w := w18) (s := ByteArray.mk #[48, 48, 102, 102]) (by decide)).mono ?_
  rintro _ w21 ⟨x, r, rfl, b21, hx⟩
  rw [uh_one] at hx
  obtain ⟨rfl, ox⟩ : r = true ∧ Own B8 5 w18.heap.size w21 x [0, 255] := by
    rcases hx with ⟨l, hl, h1, ox⟩ | ⟨hl, _⟩
    · cases hl; exact ⟨h1, ox⟩
    · cases hl
  refine ⟨x, true, rfl, ?_⟩
  have h14 := (Gr.below (S := fun _ => False) b21).blk h14 (fun h => h)
  have h18 := (Gr.below (S := fun _ => False) b21).blk h18 (fun h => h)
  have B := B.trans (b21.mono B.size)
  refine (C52 (w := w21) (s := ByteArray.mk #[48, 48, 102, 70]) (by decide)).mono ?_
  rintro _ w24 ⟨y, r, rfl, b24, hy⟩
  rw [uh_two] at hy
  obtain ⟨rfl, rfl⟩ : r = false ∧ y = ⟨none, 0, 0⟩ := by
    rcases hy with ⟨l, hl, _⟩ | ⟨_, h1, h2⟩
    · cases hl
    · exact ⟨h1, h2⟩
  refine ⟨_, false, rfl, ?_⟩
  have h14 := (Gr.below (S := fun _ => False) b24).blk h14 (fun h => h)
  have h18 := (Gr.below (S := fun _ => False) b24).blk h18 (fun h => h)
  have ox := ox.below b24
  have B := B.trans (b24.mono B.size)
  intro w25 e
  obtain ⟨w27, r27, h27, b27⟩ := lit_slice [49, 50, 51, 52, 53, 54, 55, 56, 57] e rfl (by simp)
  clear e
  have h14 := (Gr.below (S := fun _ => False) b27).blk h14 (fun h => h)
  have h18 := (Gr.below (S := fun _ => False) b27).blk h18 (fun h => h)
  have ox := ox.below b27
  have B := B.trans (b27.mono B.size)
  refine ⟨⟨_, _, _⟩, w27, r27, ?_⟩
  refine (C40 h27 (fun x hx => by simp at hx; omega)).mono ?_
  rintro _ w29 ⟨_, rfl, rfl, b29⟩
  have h14 := (Gr.below (S := fun _ => False) b29).blk h14 (fun h => h)
  have h18 := (Gr.below (S := fun _ => False) b29).blk h18 (fun h => h)
  have ox := ox.below b29
  have B := B.trans (b29.mono B.size)
  refine ⟨_, rfl, fun _ => ?_, fun h => absurd (by rw [crc_ex]; rfl) h⟩
  refine ⟨⟨_, _, _⟩, cut50 _ _, ?_⟩
  rw [digV_dbl] at h14 h18
  have r14 := rd_cells h14 (by rw [dbl_len]; omega)
  rw [dbl_len] at r14
  refine (C51 r14 (dbl_bys _) (by rw [dbl_len]; omega)).mono ?_
  rintro _ w32 ⟨_, rfl, rfl, b32⟩
  have h18 := (Gr.below (S := fun _ => False) b32).blk h18 (fun h => h)
  have ox := ox.below b32
  have B := B.trans (b32.mono B.size)
  rw [hex_abc]
  refine ⟨_, rfl, fun _ => ?_, fun h => absurd rfl h⟩
  refine ⟨⟨_, _, _⟩, cut50 _ _, ?_⟩
  have r18 := rd_cells h18 (by rw [dbl_len]; omega)
  rw [dbl_len] at r18
  refine (C51 r18 (dbl_bys _) (by rw [dbl_len]; omega)).mono ?_
  rintro _ w35 ⟨_, rfl, rfl, b35⟩
  have ox := ox.below b35
  have B := B.trans (b35.mono B.size)
  rw [hex_nil]
  refine ⟨_, rfl, fun _ => ?_, fun h => absurd rfl h⟩
  refine ⟨fun _ => ⟨_, rd_str ox.rd, fun _ => ⟨rfl, B⟩, fun h => absurd rfl h⟩, fun h => nomatch h⟩
end Go.Proofs.Ytjgijifankaglaa
