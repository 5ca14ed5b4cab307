/- append behind a slice that begins behind its row's head. -/
import Derived.Test.YtjgijifankaglaaPG
namespace Go.Proofs.Ytjgijifankaglaa
open Go Go.RowKit Go.Proofs.Ytjgijifankaglaa.SX
set_option linter.unusedVariables false

theorem ap_off {w : World} {base : Nat} {out s' : Sl} {z : Int} {zs ys : List Int} (ho : Own B8 5 base w out (z :: zs)) (hr : Rd B8 w s' ys) (hy0 : 0 < ys.length) (hb : base ≤ w.heap.size) (hl : zs.length + 1 + ys.length ≤ 1000000) :
    ∃ (s2 : Sl) (w2 : World), (Builtin.append_ #[33, 33] 33 #[.slice (if out.c = 1 then out.a else out.a.map (·.add 1)) (out.n - 1) (out.c - 1), .slice s'.a s'.n s'.c]).run Try.prog w = .ok (.slice s2.a s2.n s2.c) w2 ∧ Rd B8 w2 s2 (zs ++ ys) ∧ w.grownBy w2 out.blk := by
  obtain ⟨i0, hi, hz0, hz1, hz2⟩ := info_parts ty22.info
  have hyl := hr.1
  obtain ⟨ad, had, hc⟩ := hr.2.2.2 (by omega)
  have hcells : ∀ j u, (ys.map B8)[j]? = some u → w.cell? (ad.add j) = some u := by
    intro j u hu
    have hj : j < ys.length := by
      have := (List.getElem?_eq_some_iff.1 hu).1
      simpa using this
    rw [hc j hj]
    simpa [hj] using hu
  have hdrop := ho.rd.drop 1 (by simp)
  rw [show (z :: zs).drop 1 = zs from rfl] at hdrop
  rcases ho.form with ⟨rfl, h⟩ | ⟨g, cap, cur, rfl, h2, h3, h4, h5, h6, h7⟩
  · simp at h
  · dsimp only at hdrop ⊢
    rw [List.length_cons] at h4 hdrop ⊢
    rw [Nat.add_sub_cancel] at hdrop ⊢
    by_cases hroom : zs.length + 1 + s'.n ≤ cap
    · have hcap : ¬ cap = 1 := by omega
      rw [if_neg hcap] at hdrop ⊢
      rw [Option.map_some, add_lit] at hdrop ⊢
      obtain ⟨s3, w3, hrun, hap⟩ := ap_many (ty := 33) ty22 b8one ho hr hb (by rw [List.length_cons]; omega)
      have hcell : ∀ k, k < cap → (w.cell? ⟨g, k, none⟩).isSome = true := by
        intro k hk
        rw [cell_of_row w g k cur 5 (0, 0) h3]
        simp; omega
      have hfr : ∀ k, w.frozen? ⟨g, k, none⟩ = false := by
        intro k
        unfold World.frozen?; rw [h3]; simp
      have r0 := run_append_room_cells (P := Try.prog) (w := w) 33 33 5 i0 ty22.sl hi g 0 (zs.length + 1) cap ad s'.n s'.c (ys.map B8) (by rw [hz1]; simp [hyl]) hcells (oneCells b8one ys) hroom
        (fun j hj => hcell _ (by rw [hz1]; simp at hj; omega)) (fun j hj => hfr _)
      have r1 := run_append_room_cells (P := Try.prog) (w := w) 33 33 5 i0 ty22.sl hi g 1 zs.length (cap - 1) ad s'.n s'.c (ys.map B8) (by rw [hz1]; simp [hyl]) hcells (oneCells b8one ys) (by omega)
        (fun j hj => hcell _ (by rw [hz1]; simp at hj; omega)) (fun j hj => hfr _)
      rw [had] at hrun
      simp only [List.length_cons] at hrun
      rw [r0] at hrun
      have hw : w.setCells g (0 + (zs.length + 1) * i0.size) (ys.map B8) = w3 := congrArg (fun r => match r with | Result.ok _ w => w | _ => w) hrun
      have hv : (Value.slice (some ⟨g, 0, none⟩) (zs.length + 1 + s'.n) cap) = .slice s3.a s3.n s3.c := congrArg (fun r => match r with | Result.ok v _ => v | _ => .slice none 0 0) hrun
      simp only [Value.slice.injEq] at hv
      have hw1 : w.setCells g (1 + zs.length * i0.size) (ys.map B8) = w3 := by
        have e : 1 + zs.length * i0.size = 0 + (zs.length + 1) * i0.size := by rw [hz1]; omega
        rw [e]; exact hw
      rw [hw1] at r1
      rw [had]
      refine ⟨⟨some ⟨g, 1, none⟩, zs.length + s'.n, cap - 1⟩, w3, r1, ?_, hap.grown⟩
      have := hap.own.rd.drop 1 (by simp)
      rw [← hv.1, ← hv.2.1, ← hv.2.2, if_neg hcap, Option.map_some, add_lit] at this
      rw [show zs.length + 1 + s'.n - 1 = zs.length + s'.n by omega] at this
      exact this
    · obtain ⟨ab, hab, hbc⟩ : ∃ ab, (if cap = 1 then some (⟨g, 0, none⟩ : Addr) else Option.map (fun x => x.add 1) (some (⟨g, 0, none⟩ : Addr))) = some ab ∧ ∀ j u, (zs.map B8)[j]? = some u → w.cell? (ab.add j) = some u := by
        by_cases hcap : cap = 1
        · rw [if_pos hcap]
          refine ⟨_, rfl, fun j u hu => ?_⟩
          have : zs = [] := List.eq_nil_of_length_eq_zero (by omega)
          rw [this] at hu; simp at hu
        · rw [if_neg hcap] at hdrop ⊢
          refine ⟨_, rfl, fun j u hu => ?_⟩
          have hj : j < zs.length := by
            have := (List.getElem?_eq_some_iff.1 hu).1
            simpa using this
          obtain ⟨a, ha, hcc⟩ := hdrop.at j hj
          simp only [Option.map_some, Option.some.injEq] at ha
          show w.cell? (((⟨g, 0, none⟩ : Addr).add 1).add j) = _
          rw [ha, hcc]
          simpa [hj] using hu
      rw [hab, had]
      obtain ⟨v', w'', hr2, ho2, hg2⟩ := run_append_arg_grows (P := Try.prog) w 33 33 5 i0 (.int .u8 0) 1 1 ty22.sl hi hz0 hz1 hz2 rfl (by omega) ab zs.length (cap - 1) (zs.map B8) (by simp) hbc ad s'.n s'.c (ys.map B8) (by simp [hyl]) hcells
        (by omega) (by simp only [maxLen]; omega) (by omega)
      have hv : ∃ s2 : Sl, v' = s2.v ∧ s2.n = zs.length + s'.n := by
        rcases ho2.2 with ⟨h, hn⟩ | ⟨g, cap, cur, h, _⟩
        · exact ⟨⟨none, 0, 0⟩, h, by simpa using hn.symm⟩
        · exact ⟨⟨some ⟨g, 0, none⟩, zs.length + s'.n, cap⟩, h, rfl⟩
      obtain ⟨s2, rfl, hn⟩ := hv
      refine ⟨s2, w'', hr2, ?_, ?_⟩
      · have : Own B8 5 w.heap.size w'' s2 (zs ++ ys) := by unfold Own; rw [hn, List.map_append]; exact ho2
        exact this.rd
      · exact ⟨hg2.os, hg2.tape, hg2.output, hg2.size, fun k hk hne => hg2.block k hk (by simp)⟩
end Go.Proofs.Ytjgijifankaglaa
