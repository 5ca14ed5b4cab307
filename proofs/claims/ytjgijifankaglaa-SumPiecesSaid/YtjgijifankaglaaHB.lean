/- Sum and Of: the digest of what came so far. -/
import Derived.Test.YtjgijifankaglaaHA
namespace Go.Proofs.Ytjgijifankaglaa
open Go Go.RowKit Go.Proofs.Ytjgijifankaglaa.SX
set_option linter.unusedVariables false

theorem Hm.gr {w w' : World} {g : Nat} {fp S : Nat → Prop} {s : S8} {tot : Int} {rest : Sl} {xs : List Int} (H : Hm w g fp s tot rest xs) (q : Gr S w w') (h : ∀ k, fp k → ¬ S k) : Hm w' g fp s tot rest xs :=
  ⟨H.fg, H.fr, q.own H.own (fun k hk => h k (H.fr k hk).1), H.row.gr q (h g H.fg)⟩
/-- what the blocks behind those that are gone through are, in all that is padded -/
theorem padS_cut (bs : List Int) : padS bs = bs.take (64 * (bs.length / 64)) ++ padN (bs.drop (64 * (bs.length / 64))) (8 * (bs.length : Int)) := by
  unfold padS padN
  rw [List.length_drop, show zp (bs.length + 1) = zp (bs.length - 64 * (bs.length / 64) + 1) by unfold zp; omega]
  conv => lhs; rw [← List.take_append_drop (64 * (bs.length / 64)) bs]
  simp only [List.append_assoc]
  rw [List.take_append_drop]
theorem ix8 (s : S8) (w : World) {i : Nat} (h : i < 8) : (Instr.index 94 (.agg #[.int .u32 s.a, .int .u32 s.b, .int .u32 s.c, .int .u32 s.d, .int .u32 s.e, .int .u32 s.f, .int .u32 s.g, .int .u32 s.h] : Value) (.int .i64 (i : Int) : Value)).run Try.prog w = .ok (.int .u32 (s.at i) : Value) w := by
  have h8 : i = 0 ∨ i = 1 ∨ i = 2 ∨ i = 3 ∨ i = 4 ∨ i = 5 ∨ i = 6 ∨ i = 7 := by omega
  rcases h8 with rfl | rfl | rfl | rfl | rfl | rfl | rfl | rfl
  all_goals (show _ = _; kernel_rfl)
theorem C49 {w : World} {g : Nat} {fp : Nat → Prop} {bs : List Int} (H0 : Hst w g fp bs) (hfp : ∀ k, fp k → k < w.heap.size) (hl : bs.length ≤ 100000000000) :
    Calls Try.prog 49 #[.pointer (some ⟨g, 0, none⟩)] w (fun e w1 => ∃ (r0 : Value), e = .returned r0 ∧ (r0 = .agg (digV (ofS KR bs)) ∧ Hs w1 g fp bs ∧ Gr fp w w1)) := by
  refine F49_sound (some ⟨g, 0, none⟩) (fun r0 w1 => r0 = .agg (digV (ofS KR bs)) ∧ Hs w1 g fp bs ∧ Gr fp w w1) w ?_
  unfold F49
  intro w2 e
  have b2 : Below w.heap.size w w2 := by rw [e]; exact below_row _ _
  obtain ⟨z, hz, hzs⟩ : ∃ z, w2.heap[w.heap.size]? = some (.cells z 50 (0, 0)) ∧ z.size = 32 := ⟨_, by rw [e]; exact heap_alloc_new w _, by kernel_rfl⟩
  clear e
  have H2 : Hst w2 g fp bs := by
    rcases H0 with ⟨rest, H⟩ | ⟨rfl, hg, H⟩
    · exact .inl ⟨rest, H.below b2⟩
    · exact .inr ⟨rfl, hg, H.gr (Gr.below (S := fun _ => False) b2) (fun h => h)⟩
  refine (C78 H2).mono ?_
  rintro _ w3 ⟨rfl, ⟨rest, H⟩, q⟩
  have hz := q.blk hz (fun h => absurd (hfp _ h) (by omega))
  have q := (Gr.below (S := fp) b2).trans q (fun i _ h => h)
  have z3 := q.size
  have hzl := row_lt hz
  clear b2 H2 H0
  have hle : (bs.drop (64 * (bs.length / 64))).length < 64 := by rw [List.length_drop]; omega
  refine ⟨rfl, ?_⟩
  obtain ⟨s5, w5, r5, o5, b5⟩ : ∃ (s : Sl) (w3' : World), (Instr.makeSlice 33 (.int .i64 0) (.int .i64 128)).run Try.prog w3 = .ok (.slice s.a s.n s.c) w3' ∧ Own B8 5 w3.heap.size w3' s [] ∧ Below w3.heap.size w3 w3' :=
    ⟨⟨_, _, _⟩, _, mk_own (P := Try.prog) (w := w3) (enc := B8) ty22 (x := 0) rfl 0 128 0 128 rfl rfl (by omega) (by omega) (by simp only [maxLen]; omega)⟩
  have H5 := H.below b5
  obtain ⟨s9, w9, r9, A⟩ := ap_many (P := Try.prog) (ty := 33) ty22 b8one o5 H5.own.rd b5.size (by rw [List.length_nil]; omega)
  have b9 := A.below o5 b5.size b5
  have o9 := A.own
  rw [List.nil_append] at o9
  refine ⟨s5, w5, r5, _, rfl, rest, H5.row.r, s9, w9, r9, push8 b9.size b9 o9 128 (by omega) (fun s10 w10 o10 b10 z10 => ?_)⟩
  generalize hxs : bs.drop (64 * (bs.length / 64)) = xs at *
  have htot : (padN xs (8 * (bs.length : Int))).length % 64 = 0 := padN_64 _ _
  have hpl : (padN xs (8 * (bs.length : Int))).length = xs.length + 1 + zp (xs.length + 1) + 8 := padN_len _ _
  have hz64 : zp (xs.length + 1) < 64 := by unfold zp; omega
  refine ⟨fun st wq => ∃ acc, acc.length ≤ 200 ∧ zp acc.length + acc.length = zp (xs.length + 1) + (xs.length + 1) ∧ acc ++ List.replicate (zp acc.length) 0 = xs ++ [128] ++ List.replicate (zp (xs.length + 1)) 0 ∧ Own B8 5 w3.heap.size wq st acc ∧ Below w3.heap.size w3 wq, fun st _ => zp st.n, ⟨_, by simp; omega, by simp, by simp, o10, b10⟩, ?_⟩
  rintro out wq ⟨acc, hal, hzl2, he, ho, hb⟩
  have hol := ho.len
  unfold F49_l1
  have htm : Int.tmod (out.n : Int) 64 = ((out.n % 64 : Nat) : Int) := by rw [tm (by omega)]; omega
  rw [htm]
  refine ⟨fun hne => ?_, fun heq => ?_⟩
  · refine push8 hb.size hb ho 0 (by omega) (fun s4 w4 o4 b4 z4 => ?_)
    have ho4 := o4.len
    have hla : (acc ++ [(0 : Int)]).length = acc.length + 1 := by simp
    rw [hla] at ho4
    have hzz : zp acc.length = zp (acc.length + 1) + 1 := by unfold zp; omega
    refine ⟨⟨_, by rw [hla]; omega, by rw [hla]; omega, ?_, o4, b4⟩, ?_⟩
    · rw [hla, ← he, hzz, List.replicate_succ, List.append_assoc]; rfl
    · show zp s4.n < zp out.n
      rw [← ho4, ← hol]; omega
  · have hz0 : zp acc.length = 0 := by unfold zp; omega
    rw [hz0, List.replicate_zero, List.append_nil] at he
    clear hz0 hzl2 hal htm heq
    refine ⟨fun st wq => ∃ j : Nat, st.2 = 56 - 8 * (j : Int) ∧ j ≤ 8 ∧ Own B8 5 w3.heap.size wq st.1 (acc ++ (be8 (8 * (bs.length : Int))).take j) ∧ Below w3.heap.size w3 wq, fun st _ => (st.2 + 8).toNat, ⟨0, rfl, by omega, by simpa using ho, hb⟩, ?_⟩
    have hal2 : acc.length ≤ 200 := by rw [he]; simp; omega
    clear ho hb hol
    rintro ⟨out, _⟩ wq ⟨j, rfl, hj, ho, hb⟩
    dsimp only at ho
    unfold F49_l2
    have hbl : (be8 (8 * (bs.length : Int))).length = 8 := rfl
    have Hq := H.below hb
    refine ⟨fun hge => ?_, fun hlt => ?_⟩
    · have hj8 : j < 8 := by omega
      refine ⟨_, rfl, _, Hq.row.num, ?_⟩
      rw [w_u64 (by omega) (by omega), w_i64 (by omega) (by omega)]
      refine ⟨by omega, push8 hb.size hb ho _ (by rw [List.length_append, List.length_take]; omega) (fun s4 w4 o4 b4 z4 => ?_)⟩
      refine ⟨⟨j + 1, by (try dsimp only); omega, by omega, ?_, b4⟩, by (try dsimp only); omega⟩
      rw [← List.take_append_getElem (by omega : j < (be8 (8 * (bs.length : Int))).length), ← List.append_assoc]
      have hv : (be8 (8 * (bs.length : Int)))[j]'(by omega) = IntKind.u8.wrap (ishr .u64 (8 * (bs.length : Int)) (56 - 8 * (j : Int))) := by
        match j, hj8 with
        | 0, _ => rfl
        | 1, _ => rfl
        | 2, _ => rfl
        | 3, _ => rfl
        | 4, _ => rfl
        | 5, _ => rfl
        | 6, _ => rfl
        | 7, _ => rfl
      rw [hv]; exact o4
    · have hj8 : j = 8 := by omega
      subst hj8
      rw [List.take_of_length_le (by rw [hbl]; exact Nat.le_refl _), he] at ho
      change Own B8 5 w3.heap.size wq out (padN xs (8 * (bs.length : Int))) at ho
      clear he hal2 acc
      have hps : padS bs = bs.take (64 * (bs.length / 64)) ++ padN xs (8 * (bs.length : Int)) := by rw [← hxs]; exact padS_cut bs
      generalize hE : padN xs (8 * (bs.length : Int)) = E at *
      have htk : (bs.take (64 * (bs.length / 64))).length = 64 * (bs.length / 64) := by rw [List.length_take]; omega
      have hm0 : S8.start.many KR bs (bs.length / 64) = S8.start.many KR (padS bs) (bs.length / 64) := by
        have h1 := many_app KR S8.start (bs.take (64 * (bs.length / 64))) (bs.drop (64 * (bs.length / 64))) (n := bs.length / 64) (by rw [htk]; exact Nat.le_refl _)
        rw [List.take_append_drop] at h1
        rw [h1, hps, many_app _ _ _ _ (by rw [htk]; exact Nat.le_refl _)]
      have hof : ofS KR bs = S8.start.many KR (padS bs) (bs.length / 64 + E.length / 64) := by
        unfold ofS
        rw [show (padS bs).length / 64 = bs.length / 64 + E.length / 64 by rw [hps, List.length_append, htk]; omega]
      rw [hm0] at Hq
      have hblk : ∀ j, ((padS bs).drop (64 * (bs.length / 64 + j))).take 64 = (E.drop (64 * j)).take 64 := by
        intro j
        rw [hps, show 64 * (bs.length / 64 + j) = (bs.take (64 * (bs.length / 64))).length + 64 * j by rw [htk]; omega, drop_at]
      generalize padS bs = L at *
      refine ⟨_, rfl, _, _, _, _, _, _, _, _, Hq.row.cells8, ?_⟩
      intro w35 e
      have b35 : Below wq.heap.size wq w35 := by rw [e]; exact below_row _ _
      obtain ⟨z8, hz8, hzs8⟩ : ∃ z, w35.heap[wq.heap.size]? = some (.cells z 94 (0, 0)) ∧ z.size = 8 := ⟨_, by rw [e]; exact heap_alloc_new wq _, by kernel_rfl⟩
      clear e
      refine ⟨row_hass hz8 8 0 (by omega), ?_⟩
      intro w36 e
      obtain ⟨h8, q8⟩ := set8 hz8 hzs8 (S8.start.many KR L (bs.length / 64)) e
      clear e
      have hoq := ho
      have hbq := hb.size
      have ho := q8.own (ho.below b35) (fun k hk hk2 => by have := (ho.blk_ge k hk).2; (try dsimp only at hk2); omega)
      have hb := (hb.trans (b35.mono hb.size)).trans (q8.toBelow (B := w3.heap.size) (Nat.le_trans hb.size b35.size) (fun k hk => by have := hb.size; (try dsimp only at hk); omega))
      have hgq : w3.heap.size ≤ wq.heap.size := hbq
      have hab : ∀ a, out.a = some a → a.block ≠ wq.heap.size := fun a ha => by have := (hoq.blk_ge _ (hoq.a_blk a ha)).2; omega
      clear hz8 hzs8 q8 b35 Hq
      have hen := ho.len
      refine ⟨fun st wr => ∃ j : Nat, 64 * j ≤ E.length ∧ st.n = E.length - 64 * j ∧ wr.heap[wq.heap.size]? = some (.cells (S8.start.many KR L (bs.length / 64 + j)).cells 94 (0, 0)) ∧ Rd B8 wr st (E.drop (64 * j)) ∧ (∀ a, st.a = some a → a.block ≠ wq.heap.size) ∧ Below w3.heap.size w3 wr, fun st _ => st.n, ⟨0, by omega, by omega, h8, by simpa using ho.rd, hab, hb⟩, ?_⟩
      clear h8 ho hab hb hoq
      rintro st wr ⟨j, hj, hsn, h8, hr, hab, hb⟩
      unfold F49_l3
      have hsc := hr.2.1
      refine ⟨fun hpos => ?_, fun hend => ?_⟩
      · intro w39 hm
        have bq : Below wr.heap.size wr w39 := by rw [hm]; exact below_draw (Below.refl _ _) 1
        clear hm
        have h8 := (Gr.below (S := fun _ => False) bq).blk h8 (fun h => h)
        have hb := hb.trans (bq.mono hb.size)
        have hr := hr.below bq
        have hr64 := hr.take 64 (by rw [List.length_drop]; omega)
        refine ⟨_, _, _, _, _, _, _, _, row_cellsAt h8, _, rfl, ⟨st.a, 64, st.c⟩, cut_hi (w := w39) ty22 st 64 64 rfl (by omega), ?_⟩
        refine (C79 (s := S8.start.many KR L (bs.length / 64 + j)) (H.below hb).row.kat hr64 (by rw [List.length_take, List.length_drop]; omega)).mono ?_
        rintro _ w58 ⟨rfl, b58⟩
        have h8 := (Gr.below (S := fun _ => False) b58).blk h8 (fun h => h)
        have hb := hb.trans (b58.mono hb.size)
        have hr := hr.below b58
        refine ⟨_, _, _, _, _, _, _, _, rfl, row_hass h8 8 0 (by show 8 ≤ 8; omega), ?_⟩
        intro w59 e
        obtain ⟨h8, q8⟩ := set8 h8 rfl ((S8.start.many KR L (bs.length / 64 + j)).block KR ((E.drop (64 * j)).take 64)) e
        have hb := hb.trans (q8.toBelow (B := w3.heap.size) hb.size (fun k hk => by (try dsimp only at hk); omega))
        have hr := q8.rd hr hab
        refine ⟨⟨_, _, _⟩, cut_lo (w := w59) ty22 st 64 64 rfl (by omega), ⟨j + 1, by omega, by show st.n - 64 = _; omega, ?_, ?_, ?_, hb⟩, by show st.n - 64 < st.n; omega⟩
        · show w59.heap[wq.heap.size]? = some (.cells ((S8.start.many KR L (bs.length / 64 + j)).block KR ((L.drop (64 * (bs.length / 64 + j))).take 64)).cells 94 (0, 0))
          rw [hblk]; exact h8
        · have := hr.drop 64 (by rw [List.length_drop]; omega)
          rw [List.drop_drop] at this
          exact this
        · intro a ha
          obtain ⟨a0, h0, h1⟩ := cut_blk (s := st) ha
          rw [h1]; exact hab a0 h0
      · have hj2 : E.length / 64 = j := by omega
        rw [hj2] at hof
        rw [hof]
        generalize S8.start.many KR L (bs.length / 64 + j) = s at h8
        have d2 := row_lt h8
        intro w61 e
        have bq : Below wr.heap.size wr w61 := by rw [e]; exact below_row _ _
        obtain ⟨y, hy, hys⟩ : ∃ z, w61.heap[wr.heap.size]? = some (.cells z 50 (0, 0)) ∧ z.size = 32 := ⟨_, by rw [e]; exact heap_alloc_new wr _, by kernel_rfl⟩
        clear e
        have h8 := (Gr.below (S := fun _ => False) bq).blk h8 (fun h => h)
        have zr := hb.size
        have hb := hb.trans (bq.mono hb.size)
        refine ⟨_, _, _, _, _, _, _, _, row_cellsAt h8, ?_⟩
        refine ⟨fun st wx => ∃ i : Nat, ∃ cs, st = (i : Int) ∧ i ≤ 8 ∧ wx.heap[wr.heap.size]? = some (.cells cs 50 (0, 0)) ∧ cs.size = 32 ∧ (∀ j, j < 4 * i → cs[j]? = (digV s)[j]?) ∧ Below w3.heap.size w3 wx, fun st _ => (8 - st).toNat, ⟨0, y, rfl, by omega, hy, hys, fun j hj => by omega, hb⟩, ?_⟩
        clear hy hys hb h8 y
        rintro _ wx ⟨i, cs, rfl, hi, hc, hcs, hset, hb⟩
        unfold F49_l4
        refine ⟨fun hlt => ?_, fun hge => ?_⟩
        · have hi8 : i < 8 := by omega
          refine ⟨_, ix8 s wx hi8, ?_⟩
          have e0 : IntKind.i64.wrap (4 * (i : Int)) = ((4 * i : Nat) : Int) := by rw [w_i64 (by omega) (by omega)]; omega
          have e1 : IntKind.i64.wrap (((4 * i : Nat) : Int) + 1) = ((4 * i + 1 : Nat) : Int) := by rw [w_i64 (by omega) (by omega)]; omega
          have e2 : IntKind.i64.wrap (((4 * i : Nat) : Int) + 2) = ((4 * i + 2 : Nat) : Int) := by rw [w_i64 (by omega) (by omega)]; omega
          have e3 : IntKind.i64.wrap (((4 * i : Nat) : Int) + 3) = ((4 * i + 3 : Nat) : Int) := by rw [w_i64 (by omega) (by omega)]; omega
          rw [e0, e1, e2, e3, Int.toNat_natCast, Int.toNat_natCast, Int.toNat_natCast, Int.toNat_natCast, add_lit, add_lit, add_lit, add_lit]
          have d0 : 4 * i / 4 = i ∧ 4 * i % 4 = 0 := by omega
          have d1 : (4 * i + 1) / 4 = i ∧ (4 * i + 1) % 4 = 1 := by omega
          have d2 : (4 * i + 2) / 4 = i ∧ (4 * i + 2) % 4 = 2 := by omega
          have d3 : (4 * i + 3) / 4 = i ∧ (4 * i + 3) % 4 = 3 := by omega
          have v0 := digV_at s (i := 4 * i) (by omega)
          have v1 := digV_at s (i := 4 * i + 1) (by omega)
          have v2 := digV_at s (i := 4 * i + 2) (by omega)
          have v3 := digV_at s (i := 4 * i + 3) (by omega)
          rw [d0.1, d0.2] at v0
          rw [d1.1, d1.2] at v1
          rw [d2.1, d2.2] at v2
          rw [d3.1, d3.2] at v3
          have w0 : (digV s)[4 * i]? = some (.int .u8 (IntKind.u8.wrap (Int.fdiv (s.at i) (2 ^ 24)))) := v0
          have w1' : (digV s)[4 * i + 1]? = some (.int .u8 (IntKind.u8.wrap (Int.fdiv (s.at i) (2 ^ 16)))) := v1
          have w2' : (digV s)[4 * i + 2]? = some (.int .u8 (IntKind.u8.wrap (Int.fdiv (s.at i) (2 ^ 8)))) := v2
          have w3' : (digV s)[4 * i + 3]? = some (.int .u8 (IntKind.u8.wrap (s.at i))) := by
            rw [v3]
            show some (Value.int .u8 (IntKind.u8.wrap (Int.fdiv (s.at i) 1))) = _
            rw [Int.fdiv_one]
          refine ⟨by omega, by omega, row_has hc (by omega), ?_⟩
          intro wa ea
          have ha := row_set hc (j := 4 * i) (.int .u8 (IntKind.u8.wrap (Int.fdiv (s.at i) (2 ^ 24))))
          have qa := gr_set wx ⟨wr.heap.size, 4 * i, none⟩ (.int .u8 (IntKind.u8.wrap (Int.fdiv (s.at i) (2 ^ 24))))
          rw [← ea] at ha qa
          clear ea
          refine ⟨by omega, by omega, row_has ha (by simp; omega), ?_⟩
          intro wb eb
          have hb2 := row_set ha (j := 4 * i + 1) (.int .u8 (IntKind.u8.wrap (Int.fdiv (s.at i) (2 ^ 16))))
          have qb := gr_set wa ⟨wr.heap.size, 4 * i + 1, none⟩ (.int .u8 (IntKind.u8.wrap (Int.fdiv (s.at i) (2 ^ 16))))
          rw [← eb] at hb2 qb
          clear eb
          refine ⟨by omega, by omega, row_has hb2 (by simp; omega), ?_⟩
          intro wc ec
          have hc2 := row_set hb2 (j := 4 * i + 2) (.int .u8 (IntKind.u8.wrap (Int.fdiv (s.at i) (2 ^ 8))))
          have qc := gr_set wb ⟨wr.heap.size, 4 * i + 2, none⟩ (.int .u8 (IntKind.u8.wrap (Int.fdiv (s.at i) (2 ^ 8))))
          rw [← ec] at hc2 qc
          clear ec
          refine ⟨by omega, by omega, row_has hc2 (by simp; omega), ?_⟩
          intro wd ed
          have hd2 := row_set hc2 (j := 4 * i + 3) (.int .u8 (IntKind.u8.wrap (s.at i)))
          have qd := gr_set wc ⟨wr.heap.size, 4 * i + 3, none⟩ (.int .u8 (IntKind.u8.wrap (s.at i)))
          rw [← ed] at hd2 qd
          clear ed
          have Q := ((qa.trans qb (fun i _ h => h)).trans qc (fun i _ h => h)).trans qd (fun i _ h => h)
          rw [w_i64 (by omega) (by omega)]
          refine ⟨⟨i + 1, _, by omega, by omega, hd2, by simpa using hcs, fun j hj => ?_, hb.trans (Q.toBelow (B := w3.heap.size) hb.size (fun k hk => by (try dsimp only at hk); omega))⟩, by (try dsimp only); omega⟩
          by_cases h3 : j = 4 * i + 3
          · subst h3
            rw [Array.getElem?_setIfInBounds_self_of_lt (by simp; omega), w3']
          · rw [Array.getElem?_setIfInBounds_ne (by omega)]
            by_cases h2 : j = 4 * i + 2
            · subst h2
              rw [Array.getElem?_setIfInBounds_self_of_lt (by simp; omega), w2']
            · rw [Array.getElem?_setIfInBounds_ne (by omega)]
              by_cases h1 : j = 4 * i + 1
              · subst h1
                rw [Array.getElem?_setIfInBounds_self_of_lt (by simp; omega), w1']
              · rw [Array.getElem?_setIfInBounds_ne (by omega)]
                by_cases h0 : j = 4 * i
                · subst h0
                  rw [Array.getElem?_setIfInBounds_self_of_lt (by omega), w0]
                · rw [Array.getElem?_setIfInBounds_ne (by omega)]
                  exact hset j (by omega)
        · have hi8 : i = 8 := by omega
          subst hi8
          have hcv : cs = digV s := by
            apply Array.ext_getElem?
            intro j
            by_cases hj : j < 32
            · exact hset j (by omega)
            · rw [Array.getElem?_eq_none (by omega), Array.getElem?_eq_none (by rw [digV_size]; omega)]
          subst hcv
          have hT : aggT Try.prog 50 = true ∧ (Try.prog.info? 50).map (·.size) = some 32 := by constructor <;> kernel_rfl
          have hzx : wx.heap[w.heap.size]? = some (.cells z 50 (0, 0)) := by rw [hb.block _ hzl]; exact hz
          obtain ⟨w35, r35, h35, q35⟩ := store_all (P := Try.prog) (T := 50) (k := 32) (vs := digV s) hzx hT.2 (digV_size s) hzs (digV_one s)
          have hnf : ∀ k, fp k → ¬ k = w.heap.size := fun k hk => by have := hfp k hk; omega
          refine ⟨_, load_row hc hT (digV_size s), w35, r35, _, load_row h35 hT (digV_size s), rfl, ⟨rest, ?_⟩, ?_⟩
          · have := (H.below hb).gr q35 hnf
            rw [hxs]
            exact this
          · exact (q.trans (Gr.below (S := fp) hb) (fun i _ h => h)).trans (q35.mono (T := fun k => k = w.heap.size) (fun k h => h)) (fun i hi h => absurd h (by omega))
/-- a hash object of its own: all that it is made of lies below the heap's end -/
def HO (w : World) (g : Nat) (fp : Nat → Prop) (bs : List Int) : Prop := Hst w g fp bs ∧ ∀ k, fp k → k < w.heap.size
theorem Hst.gr {w w' : World} {g : Nat} {fp S : Nat → Prop} {bs : List Int} (H : Hst w g fp bs) (q : Gr S w w') (h : ∀ k, fp k → ¬ S k) : Hst w' g fp bs := by
  rcases H with ⟨rest, H⟩ | ⟨rfl, hg, H⟩
  · exact .inl ⟨rest, H.gr q h⟩
  · exact .inr ⟨rfl, hg, H.gr q (h g hg)⟩
theorem HO.gr {w w' : World} {g : Nat} {fp S : Nat → Prop} {bs : List Int} (H : HO w g fp bs) (q : Gr S w w') (h : ∀ k, fp k → ¬ S k) : HO w' g fp bs :=
  ⟨H.1.gr q h, fun k hk => Nat.lt_of_lt_of_le (H.2 k hk) q.size⟩
theorem HO.below {w w' : World} {g : Nat} {fp : Nat → Prop} {bs : List Int} (H : HO w g fp bs) (q : Below w.heap.size w w') : HO w' g fp bs := H.gr (Gr.below (S := fun _ => False) q) (fun _ _ h => h)
theorem new_ho (w : World) : Calls Try.prog 45 #[] w (fun e w1 => ∃ (r0 : Option Addr), e = .returned (.pointer r0) ∧ (r0 = some ⟨w.heap.size, 0, none⟩ ∧ HO w1 w.heap.size (fun k => k = w.heap.size) [] ∧ Below w.heap.size w w1)) := by
  refine (C45 w).mono ?_
  rintro _ w1 ⟨r, rfl, hr, H, b⟩
  refine ⟨r, rfl, hr, ⟨.inr ⟨rfl, rfl, H⟩, fun k hk => by have := H.lt; (try dsimp only at hk); omega⟩, b⟩
theorem write_ho {w : World} {g : Nat} {fp : Nat → Prop} {bs cs : List Int} {b : Sl} (H : HO w g fp bs) (hr : Rd B8 w b cs) (hb : ∀ a, b.a = some a → 0 < b.n → ¬ fp a.block) (hl : bs.length + cs.length ≤ 100000000000) :
    Calls Try.prog 47 #[.pointer (some ⟨g, 0, none⟩), .slice b.a b.n b.c] w (fun e w1 => e = .returned (.tuple #[]) ∧ ∃ fq : Nat → Prop, (∀ k, fq k → fp k ∨ w.heap.size ≤ k) ∧ HO w1 g fq (bs ++ cs) ∧ Gr fp w w1) := by
  refine (C47 H.1 hr hb hl).mono ?_
  rintro _ w1 ⟨rfl, ⟨rest, H1⟩, q⟩
  refine ⟨rfl, fun k => (fp k ∨ w.heap.size ≤ k) ∧ k < w1.heap.size, fun k hk => hk.1, ⟨.inl ⟨rest, ⟨H1.fg, H1.row.lt⟩, fun k hk => ⟨⟨(H1.fr k hk).1, (H1.own.blk_ge k hk).2⟩, (H1.fr k hk).2⟩, H1.own, H1.row⟩, fun k hk => hk.2⟩, q⟩
theorem sum_ho {w : World} {g : Nat} {fp : Nat → Prop} {bs : List Int} (H : HO w g fp bs) (hl : bs.length ≤ 100000000000) :
    Calls Try.prog 49 #[.pointer (some ⟨g, 0, none⟩)] w (fun e w1 => ∃ (r0 : Value), e = .returned r0 ∧ (r0 = .agg (digV (ofS KR bs)) ∧ HO w1 g fp bs ∧ Gr fp w w1)) := by
  refine (C49 H.1 H.2 hl).mono ?_
  rintro _ w1 ⟨r, rfl, hr, H1, q⟩
  exact ⟨r, rfl, hr, ⟨.inl H1, fun k hk => Nat.lt_of_lt_of_le (H.2 k hk) q.size⟩, q⟩
theorem C41 {w : World} {b : Sl} {bs : List Int} (hr : Rd B8 w b bs) (hl : bs.length ≤ 100000000000) :
    Calls Try.prog 41 #[.slice b.a b.n b.c] w (fun e w1 => ∃ (r0 : Value), e = .returned r0 ∧ (r0 = .agg (digV (ofS KR bs)) ∧ Below w.heap.size w w1)) := by
  refine F41_sound b (fun r0 w1 => r0 = .agg (digV (ofS KR bs)) ∧ Below w.heap.size w w1) w ?_
  unfold F41
  intro w2 e
  have b2 : Below w.heap.size w w2 := by rw [e]; exact below_row _ _
  obtain ⟨z, hz, hzs⟩ : ∃ z, w2.heap[w.heap.size]? = some (.cells z 50 (0, 0)) ∧ z.size = 32 := ⟨_, by rw [e]; exact heap_alloc_new w _, by kernel_rfl⟩
  clear e
  have hzl := row_lt hz
  refine (new_ho w2).mono ?_
  rintro _ w4 ⟨_, rfl, rfl, H, b4⟩
  refine ⟨_, rfl, ?_⟩
  have hz := (Gr.below (S := fun _ => False) b4).blk hz (fun h => h)
  have B := b2.trans (b4.mono b2.size)
  have hr4 := hr.below B
  have hne : ∀ a, b.a = some a → b.n ≠ 0 → a.block < w.heap.size := by
    intro a ha hn
    obtain ⟨a', ha', hc⟩ := hr.2.2.2 (by omega)
    rw [ha] at ha'; cases ha'
    have := World.block_lt_of_cell? w _ (hc 0 (by have := hr.1; omega))
    rwa [add_block] at this
  refine (write_ho H hr4 (fun a ha hn hk => by have := hne a ha (by omega); (try dsimp only at hk); omega) (by simpa using hl)).mono ?_
  rintro _ w5 ⟨rfl, fq, hfq, H, q5⟩
  refine ⟨rfl, ?_⟩
  have hz := q5.blk hz (by (try dsimp only); omega)
  have B := B.trans (q5.toBelow B.size (fun k hk => by (try dsimp only at hk); omega))
  rw [List.nil_append] at H
  refine (sum_ho H hl).mono ?_
  rintro _ w7 ⟨_, rfl, rfl, H, q7⟩
  have hq7 : ∀ k, fq k → w.heap.size < k := fun k hk => by have := hfq k hk; have := b4.size; (try dsimp only at this); omega
  have hz := q7.blk hz (fun h => by have := hq7 _ h; omega)
  have B := B.trans (q7.toBelow B.size (fun k hk => by have := hq7 k hk; omega))
  have hT : aggT Try.prog 50 = true ∧ (Try.prog.info? 50).map (·.size) = some 32 := by constructor <;> kernel_rfl
  obtain ⟨w8, r8, h8, q8⟩ := store_all (P := Try.prog) (T := 50) (k := 32) (vs := digV (ofS KR bs)) hz hT.2 (digV_size _) hzs (digV_one _)
  exact ⟨_, rfl, w8, r8, _, load_row h8 hT (digV_size _), rfl, B.trans (q8.toBelow B.size (fun k hk => by (try dsimp only at hk); omega))⟩
end Go.Proofs.Ytjgijifankaglaa
