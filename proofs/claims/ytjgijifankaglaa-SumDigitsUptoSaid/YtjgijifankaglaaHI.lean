/- SumDigits: every Hex and Unhex. -/
import Derived.Test.YtjgijifankaglaaHG
import Derived.Test.YtjgijifankaglaaGS9
namespace Go.Proofs.Ytjgijifankaglaa
open Go Go.RowKit Go.Proofs.Ytjgijifankaglaa.SX
set_option linter.unusedVariables false

theorem UA.own {w w1 : World} {s : ByteArray} {r0 : Sl} {r1 : Bool} (h : UA w s r0 r1 w1) : r1 = (uhx (sb s)).isSome ∧ Own B8 5 w.heap.size w1 r0 ((uhx (sb s)).getD []) ∧ Below w.heap.size w w1 := by
  rcases h with ⟨hb, ⟨l, hl, rfl, ho⟩ | ⟨hl, rfl, rfl⟩⟩
  · rw [hl]; exact ⟨rfl, ho, hb⟩
  · rw [hl]; exact ⟨rfl, Own.nil, hb⟩
theorem neq4 (p : Bool) (x y : Operand) (w : World) : (do eqGuard .neq 4 x y (.bool p : Value) (.bool p : Value); binOp .neq 4 (.bool p : Value) (.bool p : Value) : Sem Value).run Try.prog w = .ok (.bool false) w := by cases p <;> kernel_rfl
theorem F9_spec {w : World} {b : Sl} {bs : List Int} {s : ByteArray} (hr : Rd B8 w b bs) (hb : bys bs) (hl : bs.length ≤ 100000000) (hs : s.size ≤ 100000000) : Calls Try.prog 9 #[.slice b.a b.n b.c, .string s] w (fun e w1 => ∃ (r0 : Bool), e = .returned (.bool r0) ∧ (r0 = true ∧ Below w.heap.size w w1)) := by
  refine F9_sound b s (fun r0 w1 => r0 = true ∧ Below w.heap.size w w1) w ?_
  unfold F9
  have hn := hr.1
  refine (C38 w).mono ?_
  rintro _ w4 ⟨_, rfl, rfl, B⟩
  refine ⟨_, rfl, (fun h => nomatch h), fun _ => ⟨fun _ => ⟨rfl, B⟩, fun _ => ?_⟩⟩
  refine (C39 (hr.below B) (by omega)).mono ?_
  rintro _ w6 ⟨l, rfl, ol, bq⟩
  have B := B.trans (bq.mono B.size)
  obtain ⟨hlc, hrl⟩ := lent_head ol
  refine ⟨l, rfl, ⟨l.a, bs.length, l.c⟩, cut_hi (w := w6) ty22 l _ bs.length (by rw [hn]) hlc, ?_⟩
  refine (C51 hrl hb (by omega)).mono ?_
  rintro _ w9 ⟨_, rfl, rfl, bq⟩
  have B := B.trans (bq.mono B.size)
  have ol := ol.below bq
  refine ⟨_, rfl, ?_⟩
  refine (C42 ol.rd (hr.below B)).mono ?_
  rintro _ w11 ⟨_, rfl, rfl, bq⟩
  have B := B.trans (bq.mono B.size)
  refine ⟨_, rfl, ?_⟩
  refine (C52 (w := w11) (s := s) (by omega)).mono ?_
  rintro _ w14 ⟨x, rx, rfl, hx⟩
  obtain ⟨rfl, ox, bq⟩ := hx.own
  clear hx
  have zw := B.size
  have z11 := bq.size
  have B := B.trans (bq.mono B.size)
  refine ⟨x, _, rfl, ?_⟩
  refine (C52 (w := w14) (s := s) (by omega)).mono ?_
  rintro _ w17 ⟨y, ry, rfl, hy⟩
  obtain ⟨rfl, oy, bq⟩ := hy.own
  clear hy
  have hxk := ox.blk_ge
  have ox := ox.below bq
  have z14 := B.size
  have B := B.trans (bq.mono B.size)
  refine ⟨y, _, rfl, ?_⟩
  refine (C53 (w := w17) (s := s) (by omega)).mono ?_
  rintro _ w20 ⟨z, rz, rfl, hz⟩
  obtain ⟨rfl, oz, b20⟩ := hz.own
  clear hz
  have hyk := oy.blk_ge
  have z17 := bq.size
  have ox := ox.below b20
  have oy := oy.below b20
  have B := B.trans (b20.mono B.size)
  refine ⟨z, _, rfl, (fun h => nomatch h), fun _ => ?_⟩
  refine (C54 (hr.below B) hb (by omega)).mono ?_
  rintro _ w22 ⟨_, rfl, rfl, b22⟩
  have hzk := oz.blk_ge
  have ox := ox.below b22
  have oy := oy.below b22
  have oz := oz.below b22
  have B := B.trans (b22.mono B.size)
  have z20 := b20.size
  have z22 := b22.size
  have hxw : ∀ k, x.blk = some k → w.heap.size ≤ k := fun k hk => by have := (hxk k hk).1; omega
  have hxy : ∀ k, y.blk = some k → ¬ x.blk = some k := fun k hk h => by have := (hxk k h).2; have := (hyk k hk).1; omega
  have hxz : ∀ k, z.blk = some k → ¬ x.blk = some k := fun k hk h => by have := (hxk k h).2; have := (hzk k hk).1; omega
  have hxn := ox.len
  have hyn := oy.len
  have hxn2 : x.n ≤ 100000000 := by
    rw [← hxn]
    cases hu : uhx (sb s) with
    | none => simp
    | some l => have := uhx_len hu; have := sb_len s; simp only [Option.getD_some]; omega

  have finA : kLoop (F9_l1 b (fun r0 w1 => r0 = true ∧ Below w.heap.size w w1) (strOfNums (hx bs)) x y z) 0 w22 := by
    refine ⟨fun st wr => ∃ i : Nat, ∃ xs, st = (i : Int) ∧ i ≤ x.n ∧ Own B8 5 w11.heap.size wr x xs ∧ Gr (fun k => x.blk = some k) w22 wr, fun st _ => (x.n - st).toNat, ⟨0, _, rfl, by omega, ox, Gr.refl _ _⟩, ?_⟩
    rintro _ wr ⟨i, xs, rfl, hi, ho, q⟩
    unfold F9_l1
    have hxl := ho.len
    refine ⟨fun hlt => ?_, fun hge => ?_⟩
    · obtain ⟨a, ha, hblk, hcell, o2, g2⟩ := ho.set i (by omega) 201
      refine ⟨by omega, hlt, a, ha, by rw [Int.toNat_natCast]; exact hcell, ?_⟩
      rw [Int.toNat_natCast]
      rintro _ rfl
      rw [w_i64 (by omega) (by omega)]
      exact ⟨⟨i + 1, _, by omega, by omega, o2, q.trans (Gr.row g2 (fun k hk => hk)) (fun _ _ h => h)⟩, by (try dsimp only); omega⟩
    · refine ⟨fun st wr => ∃ i : Nat, ∃ xs : List Int, st.2 = (i : Int) ∧ i ≤ 64 ∧ xs.length ≤ x.n + i ∧ Own B8 5 w11.heap.size wr st.1 xs ∧ Gr (fun k => x.blk = some k) w22 wr ∧ (∀ k, st.1.blk = some k → x.blk = some k ∨ w22.heap.size ≤ k), fun st _ => (64 - st.2).toNat, ⟨0, xs, rfl, by omega, by omega, ho, q, fun k hk => .inl hk⟩, ?_⟩
      clear hge hi hxl
      rintro ⟨x', _⟩ wr ⟨i, xs, rfl, hi, hxl, ho, q, hbk⟩
      dsimp only at ho hbk
      unfold F9_l2
      have zq := q.size
      refine ⟨fun hlt => ?_, fun hge => ?_⟩
      · rintro _ rfl
        obtain ⟨s2, w2, r2, A⟩ := ap_one (ty := 33) (w := wr) ty22 b8one ho 201 (by omega) (by omega)
        refine ⟨s2, w2, r2, ?_⟩
        rw [w_i64 (by omega) (by omega)]
        refine ⟨⟨i + 1, _, by (try dsimp only); omega, by omega, by rw [List.length_append]; simp; omega, A.own, ?_, ?_⟩, by (try dsimp only); omega⟩
        · exact q.trans (Gr.row (S := fun k => x.blk = some k ∨ w22.heap.size ≤ k) A.grown hbk) (fun i hi h => h.resolve_right (by omega))
        · intro k hk
          rcases A.blk with hb2 | ⟨c, hb2, hc⟩
          · exact hbk k (hb2 ▸ hk)
          · dsimp only at hk
            rw [hb2] at hk; cases hk
            exact .inr (by omega)
      · have B := B.trans (q.toBelow (B := w.heap.size) B.size hxw)
        have oy := q.own oy hxy
        have oz := q.own oz hxz
        clear q ho hbk
        refine (C52 (w := wr) (s := strOfNums (hx bs)) (by rw [strOfNums_size, hx_len]; omega)).mono ?_
        rintro _ w41 ⟨u, r, rfl, b41, hu⟩
        obtain ⟨rfl, ou⟩ : r = true ∧ Own B8 5 wr.heap.size w41 u bs := by
          rw [sb_str (hx_bys hb), uhx_hx hb] at hu
          rcases hu with ⟨l, hl, h1, ox⟩ | ⟨hl, _⟩
          · cases hl; exact ⟨h1, ox⟩
          · cases hl
        have B := B.trans (b41.mono B.size)
        refine ⟨u, true, rfl, _, rd_str (oy.below b41).rd, _, rd_str (oz.below b41).rd, fun _ => ⟨fun _ => ⟨_, rd_str ou.rd, _, rd_str (hr.below B), ?_⟩, fun h => nomatch h⟩, fun h => absurd rfl h⟩
        unfold F9_j3
        exact ⟨by simp, B⟩

  have finB : kLoop (F9_l4 b (fun r0 w1 => r0 = true ∧ Below w.heap.size w w1) (strOfNums (hx bs)) x y z) 0 w22 := by
    refine ⟨fun st wr => ∃ i : Nat, ∃ xs, st = (i : Int) ∧ i ≤ x.n ∧ Own B8 5 w11.heap.size wr x xs ∧ Gr (fun k => x.blk = some k) w22 wr, fun st _ => (x.n - st).toNat, ⟨0, _, rfl, by omega, ox, Gr.refl _ _⟩, ?_⟩
    rintro _ wr ⟨i, xs, rfl, hi, ho, q⟩
    unfold F9_l4
    have hxl := ho.len
    refine ⟨fun hlt => ?_, fun hge => ?_⟩
    · obtain ⟨a, ha, hblk, hcell, o2, g2⟩ := ho.set i (by omega) 201
      refine ⟨by omega, hlt, a, ha, by rw [Int.toNat_natCast]; exact hcell, ?_⟩
      rw [Int.toNat_natCast]
      rintro _ rfl
      rw [w_i64 (by omega) (by omega)]
      exact ⟨⟨i + 1, _, by omega, by omega, o2, q.trans (Gr.row g2 (fun k hk => hk)) (fun _ _ h => h)⟩, by (try dsimp only); omega⟩
    · refine ⟨fun st wr => ∃ i : Nat, ∃ xs : List Int, st.2 = (i : Int) ∧ i ≤ 64 ∧ xs.length ≤ x.n + i ∧ Own B8 5 w11.heap.size wr st.1 xs ∧ Gr (fun k => x.blk = some k) w22 wr ∧ (∀ k, st.1.blk = some k → x.blk = some k ∨ w22.heap.size ≤ k), fun st _ => (64 - st.2).toNat, ⟨0, xs, rfl, by omega, by omega, ho, q, fun k hk => .inl hk⟩, ?_⟩
      clear hge hi hxl
      rintro ⟨x', _⟩ wr ⟨i, xs, rfl, hi, hxl, ho, q, hbk⟩
      dsimp only at ho hbk
      unfold F9_l5
      have zq := q.size
      refine ⟨fun hlt => ?_, fun hge => ?_⟩
      · rintro _ rfl
        obtain ⟨s2, w2, r2, A⟩ := ap_one (ty := 33) (w := wr) ty22 b8one ho 201 (by omega) (by omega)
        refine ⟨s2, w2, r2, ?_⟩
        rw [w_i64 (by omega) (by omega)]
        refine ⟨⟨i + 1, _, by (try dsimp only); omega, by omega, by rw [List.length_append]; simp; omega, A.own, ?_, ?_⟩, by (try dsimp only); omega⟩
        · exact q.trans (Gr.row (S := fun k => x.blk = some k ∨ w22.heap.size ≤ k) A.grown hbk) (fun i hi h => h.resolve_right (by omega))
        · intro k hk
          rcases A.blk with hb2 | ⟨c, hb2, hc⟩
          · exact hbk k (hb2 ▸ hk)
          · dsimp only at hk
            rw [hb2] at hk; cases hk
            exact .inr (by omega)
      · have B := B.trans (q.toBelow (B := w.heap.size) B.size hxw)
        have oy := q.own oy hxy
        have oz := q.own oz hxz
        clear q ho hbk
        refine (C52 (w := wr) (s := strOfNums (hx bs)) (by rw [strOfNums_size, hx_len]; omega)).mono ?_
        rintro _ w41 ⟨u, r, rfl, b41, hu⟩
        obtain ⟨rfl, ou⟩ : r = true ∧ Own B8 5 wr.heap.size w41 u bs := by
          rw [sb_str (hx_bys hb), uhx_hx hb] at hu
          rcases hu with ⟨l, hl, h1, ox⟩ | ⟨hl, _⟩
          · cases hl; exact ⟨h1, ox⟩
          · cases hl
        have B := B.trans (b41.mono B.size)
        refine ⟨u, true, rfl, _, rd_str (oy.below b41).rd, _, rd_str (oz.below b41).rd, fun _ => ⟨fun _ => ⟨_, rd_str ou.rd, _, rd_str (hr.below B), ?_⟩, fun h => nomatch h⟩, fun h => absurd rfl h⟩
        unfold F9_j6
        exact ⟨by simp, B⟩

  refine ⟨_, rfl, (fun h => absurd rfl h), fun _ => ⟨_, neq4 _ _ _ _, (fun h => nomatch h), fun _ => ⟨_, neq4 _ _ _ _, (fun h => nomatch h), fun _ => ?_⟩⟩⟩
  refine ⟨_, rd_str ox.rd, _, rd_str oz.rd, (fun h => absurd rfl h), fun _ => ⟨_, rd_str oy.rd, _, rd_str oz.rd, (fun h => absurd rfl h), fun _ => ?_⟩⟩
  refine ⟨fun h => ⟨fun h2 => absurd h2 ?_, fun _ => finA⟩, fun _ => finB⟩
  have h0 : uhx (sb s) = none := by
    cases hu : uhx (sb s) with
    | none => rfl
    | some l => rw [hu] at h; cases h
  rw [h0] at hxn hyn
  rw [← hxn, ← hyn]
  decide
end Go.Proofs.Ytjgijifankaglaa
