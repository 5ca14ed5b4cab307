/- Unhex of both. -/
import Derived.Test.YtjgijifankaglaaHC
namespace Go.Proofs.Ytjgijifankaglaa
open Go Go.RowKit Go.Proofs.Ytjgijifankaglaa.SX
set_option linter.unusedVariables false

theorem ixb {c : Int} (h : 0 ≤ c ∧ c ≤ 255) : Lib.indexByte D16.data.toList c.toNat.toUInt8 = (dv c).getD (-1) := by
  have hh : ∀ m : Fin 256, Lib.indexByte D16.data.toList (((m.val : Nat) : Int).toNat).toUInt8 = (dv ((m.val : Nat) : Int)).getD (-1) := by decide +kernel
  have := hh ⟨c.toNat, by omega⟩
  simp only at this
  rw [show ((c.toNat : Nat) : Int) = c by omega] at this
  exact this
theorem uhx_len : ∀ {l r : List Int}, uhx l = some r → l.length = 2 * r.length
  | [], r, h => by cases h; rfl
  | [_], r, h => nomatch h
  | a :: b :: l, r, h => by
    unfold uhx at h
    cases ha : dv a with
    | none => rw [ha] at h; cases h
    | some x =>
      cases hb : dv b with
      | none => rw [ha, hb] at h; cases h
      | some y =>
        cases hl : uhx l with
        | none => rw [ha, hb, hl] at h; cases h
        | some r' =>
          rw [ha, hb, hl] at h
          cases h
          have := uhx_len hl
          simp only [List.length_cons]; omega
theorem uhx_odd {l : List Int} (h : ¬ l.length % 2 = 0) : uhx l = none := by
  cases hu : uhx l with
  | none => rfl
  | some r => have := uhx_len hu; omega
theorem uhx_bad1 {a : Int} {l : List Int} (h : dv a = none) : uhx (a :: l) = none := by
  cases l with
  | nil => rfl
  | cons b l => unfold uhx; rw [h]
theorem uhx_bad2 {a b : Int} {l : List Int} (h : dv b = none) : uhx (a :: b :: l) = none := by
  unfold uhx; rw [h]
  cases dv a <;> rfl
theorem uhx_two {a b x y : Int} {l acc : List Int} (ha : dv a = some x) (hb : dv b = some y) : (uhx (a :: b :: l)).map (acc ++ ·) = (uhx l).map ((acc ++ [16 * x + y]) ++ ·) := by
  rw [uhx, ha, hb]
  cases uhx l with
  | none => rfl
  | some r => simp
/-- what Unhex answers -/
def UA (w : World) (s : ByteArray) (r0 : Sl) (r1 : Bool) (w1 : World) : Prop := Below w.heap.size w w1 ∧ ((∃ l, uhx (sb s) = some l ∧ r1 = true ∧ Own B8 5 w.heap.size w1 r0 l) ∨ (uhx (sb s) = none ∧ r1 = false ∧ r0 = ⟨none, 0, 0⟩))
theorem drop_cons {l : List Int} {i : Nat} (h : i < l.length) : l.drop i = l[i] :: l.drop (i + 1) := List.drop_eq_getElem_cons h
theorem C52 {w : World} {s : ByteArray} (hl : s.size ≤ 10000000000) : Calls Try.prog 52 #[.string s] w (fun e w1 => ∃ (r0 : Sl) (r1 : Bool), e = .returned (.tuple #[.slice r0.a r0.n r0.c, .bool r1]) ∧ UA w s r0 r1 w1) := by
  refine F52_sound s (fun r0 r1 w1 => UA w s r0 r1 w1) w ?_
  unfold F52
  have hsl := sb_len s
  have hbys := sb_bys s
  rw [tm (by omega)]
  refine ⟨fun hne => ⟨Below.refl _ _, .inr ⟨uhx_odd (by omega), rfl, rfl⟩⟩, fun he => ?_⟩
  have e1 : IntKind.i64.wrap (Int.tdiv (s.size : Int) 2) = ((s.size / 2 : Nat) : Int) := by rw [td (by omega), w_i64 (by omega) (by omega)]; omega
  rw [e1]
  obtain ⟨s3, w3, r3, o3, b3⟩ : ∃ (s' : Sl) (w3 : World), (Instr.makeSlice 33 (.int .i64 0) (.int .i64 ((s.size / 2 : Nat) : Int))).run Try.prog w = .ok (.slice s'.a s'.n s'.c) w3 ∧ Own B8 5 w.heap.size w3 s' [] ∧ Below w.heap.size w w3 :=
    ⟨⟨_, _, _⟩, _, mk_own (P := Try.prog) (w := w) (enc := B8) ty22 (x := 0) rfl 0 ((s.size / 2 : Nat) : Int) 0 (s.size / 2) rfl rfl (by omega) (by omega) (by simp only [maxLen]; omega)⟩
  refine ⟨s3, w3, r3, ?_⟩
  refine ⟨fun st wr => ∃ j : Nat, ∃ acc, st.2 = ((2 * j : Nat) : Int) ∧ 2 * j ≤ s.size ∧ acc.length = j ∧ Own B8 5 w.heap.size wr st.1 acc ∧ uhx (sb s) = (uhx ((sb s).drop (2 * j))).map (acc ++ ·) ∧ Below w.heap.size w wr, fun st _ => (s.size - st.2).toNat, ⟨0, [], rfl, by omega, rfl, o3, by simp, b3⟩, ?_⟩
  rintro ⟨b, _⟩ wr ⟨j, acc, rfl, hj, hal, ho, hu, hw⟩
  dsimp only at ho
  unfold F52_l1
  refine ⟨fun hlt => ?_, fun hge => ?_⟩
  · intro w7 hd
    have bd : Below wr.heap.size wr w7 := by rw [hd]; exact below_draw (Below.refl _ _) 1
    clear hd
    have ho := ho.below bd
    have hw := hw.trans (bd.mono hw.size)
    have h1 : 2 * j < (sb s).length := by omega
    have h2 : 2 * j + 1 < (sb s).length := by omega
    have hi2 : IntKind.i64.wrap (((2 * j : Nat) : Int) + 1) = ((2 * j + 1 : Nat) : Int) := by rw [w_i64 (by omega) (by omega)]; omega
    rw [hi2]
    have hd : (sb s).drop (2 * j) = (sb s)[2 * j] :: (sb s)[2 * j + 1] :: (sb s).drop (2 * (j + 1)) := by rw [drop_cons h1, drop_cons h2]; rfl
    have ra := hbys _ (List.getElem_mem h1)
    have rb := hbys _ (List.getElem_mem h2)
    refine ⟨_, ix_s (2 * j) rfl h1, _, ix_s (2 * j + 1) rfl h2, ?_⟩
    generalize (sb s)[2 * j] = a at *
    have hix := fun w => ix_s (s := s) (k := .i64) (w := w) (2 * j + 1) rfl h2
    generalize (sb s)[2 * j + 1] = c at *
    refine (Try.strings_IndexByte D16 a w7).mono ?_
    rintro _ w11 ⟨rfl, rfl⟩
    rw [ixb ra]
    refine ⟨_, rfl, hix _, ?_⟩
    refine (Try.strings_IndexByte D16 c w11).mono ?_
    rintro _ w13 ⟨rfl, rfl⟩
    rw [ixb rb]
    refine ⟨_, rfl, ?_⟩
    cases hda : dv a with
    | none =>
      rw [hd, uhx_bad1 hda] at hu
      exact ⟨fun _ => ⟨hw, .inr ⟨hu, rfl, rfl⟩⟩, fun h => absurd (by decide) h⟩
    | some x =>
      have hx := dv_range hda
      refine ⟨fun h => absurd h (by simp only [Option.getD_some]; omega), fun _ => ?_⟩
      cases hdb : dv c with
      | none =>
        rw [hd, uhx_bad2 hdb] at hu
        exact ⟨fun _ => ⟨hw, .inr ⟨hu, rfl, rfl⟩⟩, fun h => absurd (by decide) h⟩
      | some y =>
        have hy := dv_range hdb
        refine ⟨fun h => absurd h (by simp only [Option.getD_some]; omega), fun _ => ?_⟩
        simp only [Option.getD_some]
        rw [w_i64 (n := 16 * x) (by omega) (by omega), w_i64 (by omega) (by omega), w_u8 (by omega) (by omega)]
        rintro _ rfl
        obtain ⟨s2, w2, r2, A⟩ := ap_one (ty := 33) (w := w13) ty22 b8one ho (16 * x + y) hw.size (by omega)
        refine ⟨s2, w2, r2, ?_⟩
        rw [w_i64 (by omega) (by omega)]
        refine ⟨⟨j + 1, acc ++ [16 * x + y], by (try dsimp only); omega, by omega, by rw [List.length_append, hal]; rfl, A.own, ?_, A.below ho hw.size hw⟩, by (try dsimp only); omega⟩
        rw [hu, hd, uhx_two hda hdb]
  · have h0 : (sb s).drop (2 * j) = [] := List.drop_eq_nil_of_le (by omega)
    rw [h0] at hu
    exact ⟨hw, .inl ⟨acc, by simpa [uhx] using hu, rfl, ho⟩⟩
theorem C53 {w : World} {s : ByteArray} (hl : s.size ≤ 10000000000) : Calls Try.prog 53 #[.string s] w (fun e w1 => ∃ (r0 : Sl) (r1 : Bool), e = .returned (.tuple #[.slice r0.a r0.n r0.c, .bool r1]) ∧ UA w s r0 r1 w1) := by
  refine F53_sound s (fun r0 r1 w1 => UA w s r0 r1 w1) w ?_
  unfold F53
  have hsl := sb_len s
  have hbys := sb_bys s
  refine ⟨fun st wr => ∃ i : Nat, st.2 = (i : Int) ∧ i ≤ s.size ∧ Below w.heap.size w wr ∧ ((∃ acc, 2 * acc.length = i ∧ Own B8 5 w.heap.size wr st.1 acc ∧ uhx (sb s) = (uhx ((sb s).drop i)).map (acc ++ ·)) ∨ (∃ acc a x, 2 * acc.length + 1 = i ∧ dv a = some x ∧ Own B8 5 w.heap.size wr st.1 (acc ++ [16 * x]) ∧ uhx (sb s) = (uhx (a :: (sb s).drop i)).map (acc ++ ·))), fun st _ => (s.size - st.2).toNat, ⟨0, rfl, by omega, Below.refl _ _, .inl ⟨[], rfl, Own.nil, by simp⟩⟩, ?_⟩
  rintro ⟨out, _⟩ wr ⟨i, rfl, hi, hw, hc⟩
  dsimp only at hc
  unfold F53_l1
  refine ⟨fun hlt => ?_, fun hge => ?_⟩
  · have h1 : i < (sb s).length := by omega
    have hd := drop_cons h1
    have rc := hbys _ (List.getElem_mem h1)
    have hix := fun w => ix_s (s := s) (k := .i64) (w := w) i rfl h1
    generalize (sb s)[i] = c at *
    have bad : dv c = none → UA w s ⟨none, 0, 0⟩ false wr := by
      intro hn
      refine ⟨hw, .inr ⟨?_, rfl, rfl⟩⟩
      rcases hc with ⟨acc, _, _, hu⟩ | ⟨acc, a, x, _, _, _, hu⟩
      · rw [hu, hd, uhx_bad1 hn]; rfl
      · rw [hu, hd, uhx_bad2 hn]; rfl
    have j2 : ∀ x, dv c = some x → F53_j2 out (i : Int) (fun st' w' => (∃ i : Nat, st'.2 = (i : Int) ∧ i ≤ s.size ∧ Below w.heap.size w w' ∧ ((∃ acc, 2 * acc.length = i ∧ Own B8 5 w.heap.size w' st'.1 acc ∧ uhx (sb s) = (uhx ((sb s).drop i)).map (acc ++ ·)) ∨ (∃ acc a x, 2 * acc.length + 1 = i ∧ dv a = some x ∧ Own B8 5 w.heap.size w' st'.1 (acc ++ [16 * x]) ∧ uhx (sb s) = (uhx (a :: (sb s).drop i)).map (acc ++ ·)))) ∧ (s.size - st'.2).toNat < (s.size - (i : Int)).toNat) x wr := by
      intro x hx
      have hxr := dv_range hx
      unfold F53_j2
      rw [tm (by omega)]
      rcases hc with ⟨acc, hal, ho, hu⟩ | ⟨acc, a, y, hal, hda, ho, hu⟩
      · refine ⟨fun _ => ?_, fun h => absurd (by omega) h⟩
        rw [w_u8 (by omega) (by omega)]
        rintro _ rfl
        obtain ⟨s2, w2, r2, A⟩ := ap_one (ty := 33) (w := wr) ty22 b8one ho (16 * x) hw.size (by omega)
        refine ⟨s2, w2, r2, ?_⟩
        unfold F53_j3
        rw [w_i64 (by omega) (by omega)]
        refine ⟨⟨i + 1, by (try dsimp only); omega, by omega, A.below ho hw.size hw, .inr ⟨acc, c, x, by omega, hx, A.own, by rw [hu, hd]⟩⟩, by (try dsimp only); omega⟩
      · refine ⟨fun h => absurd h (by omega), fun _ => ?_⟩
        have hyr := dv_range hda
        have e1 : IntKind.i64.wrap (Int.tdiv (i : Int) 2) = ((acc.length : Nat) : Int) := by rw [td (by omega), w_i64 (by omega) (by omega)]; omega
        rw [e1]
        have hol := ho.len
        rw [List.length_append] at hol
        have hlt2 : acc.length < (acc ++ [16 * y]).length := by rw [List.length_append]; simp
        obtain ⟨a1, ha1, hc1⟩ := ho.rd.at acc.length hlt2
        obtain ⟨a2, ha2, hblk, hcell, o2, g2⟩ := ho.set acc.length hlt2 (16 * y + x)
        have hv : (acc ++ [16 * y])[acc.length]'hlt2 = 16 * y := by simp
        rw [hv] at hc1
        simp only [List.length_cons, List.length_nil] at hol
        refine ⟨by omega, by omega, a1, ha1, 16 * y, by rw [Int.toNat_natCast]; exact hc1, by omega, by omega, a2, ha2, by rw [Int.toNat_natCast]; exact hcell, ?_⟩
        rw [Int.toNat_natCast, w_u8 (by omega) (by omega)]
        rintro _ rfl
        unfold F53_j3
        rw [w_i64 (by omega) (by omega)]
        have e2 : (acc ++ [16 * y]).set acc.length (16 * y + x) = acc ++ [16 * y + x] := by simp
        rw [e2] at o2
        refine ⟨⟨i + 1, by (try dsimp only); omega, by omega, hw.grown g2 hw.size (fun k hk => (ho.blk_ge k hk).1), .inl ⟨acc ++ [16 * y + x], by rw [List.length_append]; simp; omega, o2, ?_⟩⟩, by (try dsimp only); omega⟩
        rw [hu, hd, uhx_two hda hx]
    have sm : 97 ≤ c → c ≤ 102 → IntKind.u8.wrap ((IntKind.u8.wrap (c - 97)) + 10) = c - 87 := fun h1 h2 => by rw [w_u8 (n := c - 97) (by omega) (by omega), w_u8 (by omega) (by omega)]; omega
    refine ⟨c, hix _, fun h48 => ⟨c, hix _, fun h57 => ?_, fun h57 => ⟨c, hix _, fun h97 => ⟨c, hix _, fun h102 => ?_, fun h102 => ?_⟩, fun h97 => ?_⟩⟩, fun h48 => ⟨c, hix _, fun h97 => ⟨c, hix _, fun h102 => ?_, fun h102 => ?_⟩, fun h97 => ?_⟩⟩
    · refine ⟨c, hix _, ?_⟩
      rw [w_u8 (by omega) (by omega)]
      exact j2 _ (by unfold dv; rw [if_pos (by omega)])
    · refine ⟨c, hix _, ?_⟩
      rw [sm (by omega) (by omega)]
      exact j2 _ (by unfold dv; rw [if_neg (by omega), if_pos (by omega)])
    · exact bad (by unfold dv; rw [if_neg (by omega), if_neg (by omega)])
    · exact bad (by unfold dv; rw [if_neg (by omega), if_neg (by omega)])
    · exact absurd h97 (by omega)
    · exact absurd h97 (by omega)
    · exact bad (by unfold dv; rw [if_neg (by omega), if_neg (by omega)])
  · have h0 : (sb s).drop i = [] := List.drop_eq_nil_of_le (by omega)
    rw [h0] at hc
    rw [tm (by omega)]
    rcases hc with ⟨acc, hal, ho, hu⟩ | ⟨acc, a, x, hal, hda, ho, hu⟩
    · exact ⟨fun h => absurd h (by omega), fun _ => ⟨hw, .inl ⟨acc, by simpa [uhx] using hu, rfl, ho⟩⟩⟩
    · exact ⟨fun _ => ⟨hw, .inr ⟨by simpa [uhx] using hu, rfl, rfl⟩⟩, fun h => absurd (by omega) h⟩
end Go.Proofs.Ytjgijifankaglaa
