/- A pair of writers: what its bytes are, and what a step does. -/
import Derived.Test.YthhcaaellhdkiaaCM
namespace Go.Proofs.Ythhcaaellhdkiaa
open Go Go.RowKit Go.Proofs.Ythhcaaellhdkiaa.SX
set_option linter.unusedVariables false

theorem C36 {w : World} {g : Nat} {oa ob : Addr} {sl : Sl} {mark len : Int} {l : List Bool} {fa fb fp : Nat → Prop} (h : Pw w g oa ob sl mark len l l fa fb fp) (hl : l.length ≤ 1000000) :
    Calls Try.prog 36 #[.pointer (some ⟨g, 0, none⟩)] w (fun e w1 => ∃ (r0 : Bool), e = .returned (.bool r0 : Value) ∧ (r0 = true ∧ ∃ sl' mark' fq, Pw w1 g oa ob sl' mark' len l l fa fb fq ∧ Gr fp w w1 ∧ ∀ k, fq k → fp k ∨ w.heap.size ≤ k)) := by
  refine F36_sound _ (fun r0 w1 => r0 = true ∧ ∃ sl' mark' fq, Pw w1 g oa ob sl' mark' len l l fa fb fq ∧ Gr fp w w1 ∧ ∀ k, fq k → fp k ∨ w.heap.size ≤ k) w ?_
  unfold F36
  refine ⟨_, rfl, some oa, h.pc.c0, (C46 h.pc.wr hl).mono ?_⟩
  rintro _ w5 ⟨t13, rfl, o13, b5⟩
  have p5 := h.keep (S := fun _ => False) (Gr.below b5) (fun _ _ h => h)
  refine ⟨t13, rfl, _, rfl, some oa, p5.pc.c0, (C46 p5.pc.wr hl).mono ?_⟩
  rintro _ w9 ⟨t18, rfl, o18, b9⟩
  have p9 := p5.keep (S := fun _ => False) (Gr.below b9) (fun _ _ h => h)
  refine ⟨t18, rfl, _, rfl, some ob, p9.pc.c1, (C61 p9.pc.wf hl).mono ?_⟩
  rintro _ w13 ⟨t23, rfl, o23, b13⟩
  have p13 := p9.keep (S := fun _ => False) (Gr.below b13) (fun _ _ h => h)
  have s5 := b5.size
  have s9 := b9.size
  have s13 := b13.size
  have o13' := (o13.below b9).below b13
  have o18' := o18.below b13
  have hgw := row_lt h.pc.row
  refine ⟨t23, rfl, _, rd_str o23.rd, _, rd_str o13'.rd, fun h => absurd rfl h, fun _ => ⟨_, rd_str o18'.rd, fun h => absurd rfl h, fun _ => ?_⟩⟩
  have B13 : Gr fp w w13 := ((Gr.below b5 (S := fp)).trans (Gr.below b9 (S := fun _ => False)) (fun _ _ h => h.elim)).trans (Gr.below b13 (S := fun _ => False)) (fun _ _ h => h.elim)
  obtain ⟨k, ow⟩ := p13.own
  have hkn := ow.len
  rw [List.length_replicate] at hkn
  have hkm : k ≤ 9223372036854775807 := by
    have h1 := ow.rd.2.1
    have h2 := ow.rd.2.2.1
    simp only [maxLen] at h2; omega
  refine ⟨fun i wq => ∃ j : Nat, i = (j : Int) ∧ j ≤ k ∧ Gr (fun _ => False) w13 wq, fun i _ => ((k : Int) - i).toNat, ⟨0, rfl, by omega, Gr.refl _ _⟩, ?_⟩
  rintro _ wq ⟨j, rfl, hj, gq⟩
  unfold F36_l1
  have pq := p13.keep gq (fun _ _ h => h)
  have oq := gq.own ow (fun _ _ h => h)
  refine ⟨_, rfl, sl, pq.pc.c2, fun hlt => ?_, fun hge => ?_⟩
  · obtain ⟨a, ha, hcell⟩ := oq.rd.at j (by simp; omega)
    rw [List.getElem_replicate] at hcell
    refine ⟨_, rfl, sl, pq.pc.c2, by omega, by omega, a, ha, _, hcell, _, rfl, mark, pq.pc.c3, ?_⟩
    rintro _ ⟨m, rfl⟩
    rw [w_i64 (by omega) (by omega)]
    refine ⟨fun h => absurd rfl h, fun _ => ⟨⟨j + 1, by omega, by omega, gr_drewN gq m⟩, by (try dsimp only); omega⟩⟩
  · refine ⟨_, rfl, mark, pq.pc.c3, _, rfl, pq.pc.has 3 (by omega), ?_⟩
    generalize hm' : IntKind.u8.wrap (mark + 1) = mark'
    have hmr : 0 ≤ mark' ∧ mark' ≤ 255 := by rw [← hm', wm_u8]; omega
    rintro _ rfl
    have pc31 := pq.pc.s3 mark'
    have g31 : Gr (fun k => k = g) w13 (wq.setCell ((⟨g, 0, none⟩ : Addr).add 3) (.int .u8 mark')) := (gq.mono (T := fun k => k = g) (fun _ h => h.elim)).trans (gr_set wq _ _) (fun i _ hi => by rw [add_block] at hi; exact hi)
    generalize wq.setCell ((⟨g, 0, none⟩ : Addr).add 3) (.int .u8 mark') = w31 at pc31 g31 ⊢
    have o31 := g31.own o13' (fun b hb e => by have := o13.blk_ge b hb; omega)
    have hn := o13.len
    have hpl := pk_len l
    have s31 := g31.size
    refine ⟨fun i wz => ∃ j : Nat, i = (j : Int) ∧ j ≤ (pk l).length ∧ Own B8 5 w.heap.size wz t13 (List.replicate j mark' ++ (pk l).drop j) ∧ Gr (fun k => w.heap.size ≤ k ∧ k < w5.heap.size) w31 wz, fun i _ => (((pk l).length : Int) - i).toNat, ⟨0, rfl, by omega, by simpa using o31, Gr.refl _ _⟩, ?_⟩
    rintro _ wz ⟨j2, rfl, hj2, oz, gz⟩
    unfold F36_l2
    have pcz := pc31.keep gz (fun k hk hk' => by have := h.lt k (h.sa k hk); omega) (fun k hk hk' => by have := h.lt k (h.sb k hk); omega) (fun hk => by omega)
    refine ⟨fun hlt => ?_, fun hge => ?_⟩
    · obtain ⟨a, ha, hab, hc, hos, hgs⟩ := oz.set j2 (by simp; omega) mark'
      refine ⟨_, rfl, mark', pcz.c3, by omega, hlt, a, ha, hc, ?_⟩
      rintro _ rfl
      rw [w_i64 (by omega) (by omega)]
      rw [paint (pk l) j2 (by omega) mark'] at hos
      have hb := o13.blk_ge _ hab
      refine ⟨⟨j2 + 1, by omega, by omega, hos, gz.trans (Gr.row hgs (S := fun k => t13.blk = some k) (fun b hb => hb)) (fun i _ hi => by have := o13.blk_ge i hi; omega)⟩, by (try dsimp only); omega⟩
    · have hj2' : j2 = (pk l).length := by omega
      subst hj2'
      rw [List.drop_eq_nil_of_le (by omega), List.append_nil] at oz
      refine ⟨fun st wy => ∃ j : Nat, st.2 = (j : Int) ∧ j ≤ 9 ∧ Own B8 5 w.heap.size wy st.1 (List.replicate ((pk l).length + j) mark') ∧ Gr (fun k => w.heap.size ≤ k ∧ k < w5.heap.size) w31 wy ∧ (∀ b, st.1.blk = some b → w.heap.size ≤ b ∧ (b < w5.heap.size ∨ w31.heap.size ≤ b)), fun st _ => (9 - st.2).toNat,
        ⟨0, rfl, by omega, oz, gz, fun b hb => by have := o13.blk_ge b hb; omega⟩, ?_⟩
      rintro ⟨cur, _⟩ wy ⟨j3, rfl, hj3, oy, gy, hby⟩
      dsimp only at oy hby
      unfold F36_l3
      have pcy := pc31.keep gy (fun k hk hk' => by have := h.lt k (h.sa k hk); omega) (fun k hk hk' => by have := h.lt k (h.sb k hk); omega) (fun hk => by omega)
      have sy := gy.size
      refine ⟨fun hlt => ?_, fun hge => ?_⟩
      · refine ⟨_, rfl, mark', pcy.c3, ?_⟩
        rintro _ rfl
        obtain ⟨s2, w2, h1, h2⟩ := ap_one (ty := 22) (w := wy) ty22 b8one oy mark' (by omega) (by simp; omega)
        refine ⟨s2, w2, h1, ?_⟩
        rw [w_i64 (by omega) (by omega)]
        refine ⟨⟨j3 + 1, by dsimp only; omega, by omega, ?_, gy.trans (Gr.row h2.grown (S := fun k => cur.blk = some k) (fun b hb => hb)) (fun i hi hi' => by have := hby i hi'; omega), fun b hb => ?_⟩, by dsimp only; omega⟩
        · have := h2.own
          rw [← List.replicate_succ'] at this
          exact this
        · rcases h2.blk with h3 | ⟨b', h3, h4⟩
          · exact hby b (by rw [← h3]; exact hb)
          · have e : b' = b := Option.some.inj (h3.symm.trans hb)
            omega
      · obtain rfl : j3 = 9 := by omega
        refine ⟨_, rfl, pcy.has 2 (by omega), ?_⟩
        rintro _ rfl
        have pcf := pcy.s2 cur
        have gf := gr_set wy ((⟨g, 0, none⟩ : Addr).add 2) cur.v
        rw [add_block] at gf
        have G : Gr (fun k => k = g ∨ (w.heap.size ≤ k ∧ k < w5.heap.size)) w13 (wy.setCell ((⟨g, 0, none⟩ : Addr).add 2) cur.v) :=
          ((g31.mono (fun _ h => .inl h)).trans gy (fun _ _ h => .inr h)).trans gf (fun _ _ h => .inl h)
        have of := gf.own oy (fun b hb e => by have := hby b hb; have : b = g := e; omega)
        have o18f := G.own o18' (fun b hb e => by have := o18.blk_ge b hb; omega)
        refine ⟨_, rd_str o18f.rd, by simp, cur, mark', (fun k => fp k ∨ cur.blk = some k), ⟨pcf, ⟨_, of.lower (Nat.zero_le _)⟩, fun b hb => ?_, fun k hk => .inl (h.sa k hk), fun k hk => .inl (h.sb k hk), .inl h.sg, ?_, hmr, h.l0⟩, B13.trans G (fun i hi hi' => ?_), ?_⟩
        · have hb' := hby b hb
          exact ⟨fun hk => by have := h.lt b (h.sa b hk); omega, fun hk => by have := h.lt b (h.sb b hk); omega, by omega, .inr hb⟩
        · intro k hk
          have := gf.size
          rcases hk with hk | hk
          · have := h.lt k hk; exact Nat.lt_of_lt_of_le (by omega : k < wy.heap.size) gf.size
          · exact (of.blk_ge k hk).2
        · rcases hi' with hi' | hi'
          · rw [hi']; exact h.sg
          · omega
        · intro k hk
          rcases hk with hk | hk
          · exact .inl hk
          · exact .inr (hby k hk).1

/-- what a step leaves -/
def Res (w : World) (g : Nat) (oa ob : Addr) (fp : Nat → Prop) (n : Nat) (w1 : World) : Prop :=
  ∃ l' sl' mark' len' fa' fb' fq, l'.length ≤ n + 64 ∧ Pw w1 g oa ob sl' mark' len' l' l' fa' fb' fq ∧ Gr fp w w1 ∧ ∀ k, fq k → fp k ∨ w.heap.size ≤ k
theorem F35_j1_spec {w wq : World} {g : Nat} {oa ob : Addr} {sl : Sl} {mark len : Int} {l : List Bool} {fa fb fp fq : Nat → Prop} {n : Nat} (h : Pw wq g oa ob sl mark len l l fa fb fq) (hl : l.length ≤ n + 64) (hg : Gr fp w wq) (hf : ∀ k, fq k → fp k ∨ w.heap.size ≤ k) :
    F35_j1 (some ⟨g, 0, none⟩) (fun r w1 => r = true ∧ Res w g oa ob fp n w1) wq := by
  unfold F35_j1
  rintro _ rfl
  have p : Pw wq.drew g oa ob sl mark len l l fa fb fq := h.keep (S := fun _ => False) (gr_drew wq 1) (fun _ _ h => h)
  have g1 : Gr fp w wq.drew := gr_drewN hg 1
  refine ⟨_, rfl, _, p.pc.c0, _, rfl, _, p.pc.c1, (C44 p.pc.wr).mono ?_⟩
  rintro _ _ ⟨_, rfl, rfl, rfl⟩
  refine ⟨_, rfl, p.pc.c1, (C60 p.pc.wf).mono ?_⟩
  rintro _ _ ⟨_, rfl, rfl, rfl⟩
  exact ⟨_, rfl, by simp, l, sl, mark, len, fa, fb, fq, hl, p, g1, hf⟩
theorem C35 {w : World} {g : Nat} {oa ob : Addr} {sl : Sl} {mark len : Int} {l : List Bool} {fa fb fp : Nat → Prop} {kd on v n : Int} (h : Pw w g oa ob sl mark len l l fa fb fp) (hl : l.length ≤ 900000) (hv0 : 0 ≤ v) (hv1 : v < 18446744073709551616) (hn : n ≤ 9223372036854775807) :
    Calls Try.prog 35 #[.pointer (some ⟨g, 0, none⟩), .agg #[.int .i64 kd, .int .i64 on, .int .u64 v, .int .i64 n]] w (fun e w1 => ∃ (r0 : Bool), e = .returned (.bool r0 : Value) ∧ (r0 = true ∧ Res w g oa ob fp l.length w1)) := by
  refine F35_sound _ kd on v n (fun r w1 => r = true ∧ Res w g oa ob fp l.length w1) w ?_
  unfold F35
  rintro _ rfl
  have row6 := heap_alloc_new w (.cells #[.int .i64 kd, .int .i64 on, .int .u64 v, .int .i64 n] 68)
  have g6 : ∀ S, Gr S w (w.alloc (.cells #[.int .i64 kd, .int .i64 on, .int .u64 v, .int .i64 n] 68)) := fun S => gr_alloc w _ _
  have z6 : (w.alloc (.cells #[.int .i64 kd, .int .i64 on, .int .u64 v, .int .i64 n] 68)).heap.size = w.heap.size + 1 := by simp
  generalize w.alloc (.cells #[.int .i64 kd, .int .i64 on, .int .u64 v, .int .i64 n] 68) = w6 at row6 g6 z6 ⊢
  have p6 := h.keep (g6 (fun _ => False)) (fun _ _ h => h)
  have na : ¬ fa w.heap.size := fun hk => by have := h.lt _ (h.sa _ hk); omega
  have nb : ¬ fb w.heap.size := fun hk => by have := h.lt _ (h.sb _ hk); omega
  have cell : ∀ (wq : World) (j : Nat), wq.heap[w.heap.size]? = some (.cells #[.int .i64 kd, .int .i64 on, .int .u64 v, .int .i64 n] 68 (0, 0)) → wq.cell? ((⟨w.heap.size, 0, none⟩ : Addr).add j) = (#[.int .i64 kd, .int .i64 on, .int .u64 v, .int .i64 n] : Array Value)[j]? := by
    intro wq j hq
    rw [add_lit, row_get hq]
  refine ⟨kd, cell w6 0 row6, fun _ => ?_, fun _ => ⟨fun _ => ?_, fun _ => ⟨fun _ => ?_, fun _ => ⟨fun _ => ?_, fun _ => ?_⟩⟩⟩⟩
  · rintro _ rfl
    have p8 := p6.keep (S := fun _ => False) (gr_drew w6 1) (fun _ _ h => h)
    have g8 : ∀ S, Gr S w (w6.drewN 1) := fun S => gr_drewN (g6 S) 1
    have row8 : (w6.drewN 1).heap[w.heap.size]? = _ := row6
    have z8 : (w6.drewN 1).heap.size = w.heap.size + 1 := z6
    have e8 : w6.drew = w6.drewN 1 := rfl
    rw [e8]
    generalize w6.drewN 1 = w8 at p8 g8 row8 z8 ⊢
    refine ⟨_, rfl, _, p8.pc.c0, v, cell w8 2 row8, n, cell w8 3 row8, (C43 (n := n) p8.pc.wr (by omega) hv0 hv1).mono ?_⟩
    rintro _ w13 ⟨rfl, fa', hw13, hg13, hf13⟩
    refine ⟨rfl, ?_⟩
    have p13 := p8.upA hg13 hw13 hf13
    have row13 := hg13.blk row8 na
    have G13 : Gr fp w w13 := (g8 fp).trans hg13 (fun i _ hi => h.sa i hi)
    have s13 := hg13.size
    rintro _ rfl
    have p14 := p13.keep (S := fun _ => False) (gr_drew w13 1) (fun _ _ h => h)
    have G14 := gr_drewN G13 1
    have row14 : (w13.drewN 1).heap[w.heap.size]? = _ := row13
    have z14 : (w13.drewN 1).heap.size = w13.heap.size := rfl
    have e14 : w13.drew = w13.drewN 1 := rfl
    rw [e14]
    generalize w13.drewN 1 = w14 at p14 G14 row14 z14 ⊢
    refine ⟨_, rfl, _, p14.pc.c1, v, cell w14 2 row14, n, cell w14 3 row14, (C58 (n := n) p14.pc.wf (by omega) hv0 hv1).mono ?_⟩
    rintro _ w19 ⟨rfl, fb', hw19, hg19, hf19⟩
    have p19 := p14.upB hg19 hw19 hf19
    have hcl := cl_le n
    refine ⟨rfl, F35_j1_spec p19 (by rw [List.length_append, bo_len]; omega) (G14.trans hg19 (fun i _ hi => h.sb i hi)) (fun k hk => ?_)⟩
    rcases hk with hk | hk
    · rcases hk with hk | hk
      · exact .inl hk
      · right; omega
    · right; omega
  · rintro _ rfl
    have p8 := p6.keep (S := fun _ => False) (gr_drew w6 1) (fun _ _ h => h)
    have g8 : ∀ S, Gr S w (w6.drewN 1) := fun S => gr_drewN (g6 S) 1
    have row8 : (w6.drewN 1).heap[w.heap.size]? = _ := row6
    have z8 : (w6.drewN 1).heap.size = w.heap.size + 1 := z6
    have e8 : w6.drew = w6.drewN 1 := rfl
    rw [e8]
    generalize w6.drewN 1 = w8 at p8 g8 row8 z8 ⊢
    refine ⟨_, rfl, _, p8.pc.c0, n, cell w8 3 row8, (C45 p8.pc.wr (by omega) hn).mono ?_⟩
    rintro _ w13 ⟨rfl, hw13, hg13⟩
    refine ⟨rfl, ?_⟩
    have p13 := p8.upA hg13 hw13 (fun k hk => .inl hk)
    have row13 := hg13.blk row8 na
    have G13 : Gr fp w w13 := (g8 fp).trans hg13 (fun i _ hi => h.sa i hi)
    have s13 := hg13.size
    rintro _ rfl
    have p14 := p13.keep (S := fun _ => False) (gr_drew w13 1) (fun _ _ h => h)
    have G14 := gr_drewN G13 1
    have row14 : (w13.drewN 1).heap[w.heap.size]? = _ := row13
    have z14 : (w13.drewN 1).heap.size = w13.heap.size := rfl
    have e14 : w13.drew = w13.drewN 1 := rfl
    rw [e14]
    generalize w13.drewN 1 = w14 at p14 G14 row14 z14 ⊢
    refine ⟨_, rfl, _, p14.pc.c1, n, cell w14 3 row14, (C59 p14.pc.wf).mono ?_⟩
    rintro _ w19 ⟨rfl, hw19, hg19⟩
    have p19 := p14.upB hg19 hw19 (fun k hk => .inl hk)
    refine ⟨rfl, F35_j1_spec p19 (by rw [List.length_take]; omega) (G14.trans hg19 (fun i _ hi => h.sb i hi)) (fun k hk => ?_)⟩
    rcases hk with hk | hk
    · rcases hk with hk | hk
      · exact .inl hk
      · right; omega
    · right; omega
  · rintro _ rfl
    have p8 := p6.keep (S := fun _ => False) (gr_drew w6 1) (fun _ _ h => h)
    have g8 : ∀ S, Gr S w (w6.drewN 1) := fun S => gr_drewN (g6 S) 1
    have z8 : (w6.drewN 1).heap.size = w.heap.size + 1 := z6
    have e8 : w6.drew = w6.drewN 1 := rfl
    rw [e8]
    generalize w6.drewN 1 = w8 at p8 g8 z8 ⊢
    refine ⟨_, rfl, _, p8.pc.c0, _, rfl, len, p8.pc.c4, (C45 p8.pc.wr (by omega) h.l0).mono ?_⟩
    rintro _ w13 ⟨rfl, hw13, hg13⟩
    refine ⟨rfl, ?_⟩
    have p13 := p8.upA hg13 hw13 (fun k hk => .inl hk)
    have G13 : Gr fp w w13 := (g8 fp).trans hg13 (fun i _ hi => h.sa i hi)
    have s13 := hg13.size
    rintro _ rfl
    have p14 := p13.keep (S := fun _ => False) (gr_drew w13 1) (fun _ _ h => h)
    have G14 := gr_drewN G13 1
    have z14 : (w13.drewN 1).heap.size = w13.heap.size := rfl
    have e14 : w13.drew = w13.drewN 1 := rfl
    rw [e14]
    generalize w13.drewN 1 = w14 at p14 G14 z14 ⊢
    refine ⟨_, rfl, _, p14.pc.c1, _, rfl, len, p14.pc.c4, (C59 p14.pc.wf).mono ?_⟩
    rintro _ w19 ⟨rfl, hw19, hg19⟩
    have p19 := p14.upB hg19 hw19 (fun k hk => .inl hk)
    have G19 := G14.trans hg19 (fun i _ hi => h.sb i hi)
    have s19 := hg19.size
    have hsub : ∀ k, wide (wide fp w8 w13) w14 w19 k → fp k ∨ w.heap.size ≤ k := by
      intro k hk
      rcases hk with hk | hk
      · rcases hk with hk | hk
        · exact .inl hk
        · right; omega
      · right; omega
    refine ⟨rfl, _, rfl, _, p19.pc.c1, (C60 p19.pc.wf).mono ?_⟩
    rintro _ _ ⟨_, rfl, rfl, rfl⟩
    refine ⟨_, rfl, _, rfl, p19.pc.has 4 (by omega), ?_⟩
    rintro _ rfl
    obtain ⟨p20, g20⟩ := p19.s4 ((List.take len.toNat l).length : Int) (by rw [List.length_take]; omega)
    exact F35_j1_spec p20 (by rw [List.length_take]; omega) (G19.trans g20 (fun i hi hk => by rcases hsub i hk with h | h; exact h; omega)) hsub
  · refine (C36 p6 (by omega)).mono ?_
    rintro _ w59 ⟨_, rfl, rfl, sl', mark', fq, p59, g59, hf59⟩
    refine ⟨_, rfl, (fun h => nomatch h), fun _ => ?_⟩
    exact F35_j1_spec p59 (by omega) ((g6 fp).trans g59 (fun _ _ h => h)) (fun k hk => by rcases hf59 k hk with h | h; exact .inl h; right; omega)
  · exact F35_j1_spec p6 (by omega) (g6 fp) (fun k hk => .inl hk)
end Go.Proofs.Ythhcaaellhdkiaa
