/- The writer of package bits: Put, walked. -/
import Derived.Test.YthhcaaellhdkiaaBX
namespace Go.Proofs.Ythhcaaellhdkiaa
open Go Go.RowKit Go.Proofs.Ythhcaaellhdkiaa.SX
set_option linter.unusedVariables false

/-- a writer's state, bytes and count apart -/
structure Wz (w : World) (o : Addr) (s : Sl) (n : Int) (xs : List Int) (fp : Nat → Prop) : Prop where
  c0 : w.cell? o = some s.v
  c1 : w.cell? (o.add 1) = some (.int .i64 n)
  f0 : w.frozen? o = false
  f1 : w.frozen? (o.add 1) = false
  own : Own B8 5 0 w s xs
  bl : ∀ b, s.blk = some b → fp b ∧ b ≠ o.block
  fo : fp o.block
  lt : ∀ k, fp k → k < w.heap.size
theorem wr_iff {w : World} {o : Addr} {l : List Bool} {fp : Nat → Prop} : Wr w o l fp ↔ ∃ s, Wz w o s l.length (pk l) fp :=
  ⟨fun ⟨s, h1, h2, h3, h4, h5, h6, h7, h8⟩ => ⟨s, ⟨h1, h2, h3, h4, h5, h6, h7, h8⟩⟩, fun ⟨s, h⟩ => ⟨s, h.c0, h.c1, h.f0, h.f1, h.own, h.bl, h.fo, h.lt⟩⟩

section
variable {w w' : World} {o : Addr} {s : Sl} {n : Int} {xs : List Int} {fp S : Nat → Prop}
theorem Wz.keep (h : Wz w o s n xs fp) (hg : Gr S w w') (hn : ∀ k, fp k → ¬ S k) : Wz w' o s n xs fp := by
  have hb := World.block_lt_of_cell? w _ h.c0
  exact ⟨hg.cell h.c0 (hn _ h.fo), hg.cell h.c1 (by rw [add_block]; exact hn _ h.fo), by rw [hg.frozen hb (hn _ h.fo)]; exact h.f0, by rw [hg.frozen (by rw [add_block]; exact hb) (by rw [add_block]; exact hn _ h.fo)]; exact h.f1,
    hg.own h.own (fun b hb => hn b (h.bl b hb).1), h.bl, h.fo, fun k hk => Nat.lt_of_lt_of_le (h.lt k hk) hg.size⟩
theorem Wz.row (h : Wz w o s n xs fp) (i : Nat) (hi : i < xs.length) (y : Int) : ∃ a, s.a = some a ∧ HasCell w (a.add i) ∧ Wz (w.setCell (a.add i) (B8 y)) o s n (xs.set i y) fp ∧ Gr fp w (w.setCell (a.add i) (B8 y)) := by
  obtain ⟨a, ha, hab, hc, ho, hg⟩ := h.own.set i hi y
  have hbl := h.bl _ hab
  have hb := World.block_lt_of_cell? w _ h.c0
  have hne : some o.block ≠ s.blk := by rw [hab]; intro e; exact hbl.2 (Option.some.inj e).symm
  refine ⟨a, ha, hc, ⟨keep_cell h.c0 hg hne, keep_cell h.c1 hg (by rw [add_block]; exact hne), by simpa using h.f0, by simpa using h.f1, ho, h.bl, h.fo, fun k hk => Nat.lt_of_lt_of_le (h.lt k hk) hg.size⟩, Gr.row hg (fun b hb => (h.bl b hb).1)⟩
theorem off_ne (o : Addr) : o ≠ o.add 1 := by unfold Addr.add; simp; intro e; exact absurd (congrArg Addr.off e) (by simp)
theorem Wz.count (h : Wz w o s n xs fp) (m : Int) : HasCell w (o.add 1) ∧ Wz (w.setCell (o.add 1) (.int .i64 m)) o s m xs fp ∧ Gr fp w (w.setCell (o.add 1) (.int .i64 m)) := by
  have hg := grown_set w (o.add 1) (.int .i64 m)
  rw [add_block] at hg
  refine ⟨⟨⟨_, h.c1⟩, h.f1⟩, ⟨?_, World.cell?_setCell_same _ _ _ h.c1, by simpa using h.f0, by simpa using h.f1, ?_, h.bl, h.fo, fun k hk => Nat.lt_of_lt_of_le (h.lt k hk) hg.size⟩, Gr.row hg (fun b hb => by cases hb; exact h.fo)⟩
  · rw [World.cell?_setCell_other _ _ _ _ (off_ne o).symm]; exact h.c0
  · refine h.own.kept hg ?_
    cases hk : s.blk with
    | none => exact .inl rfl
    | some b => right; intro e; cases e; exact (h.bl _ hk).2 rfl
/-- the row is another slice now -/
theorem Wz.slice (h : Wz w o s n xs fp) {w2 : World} {s2 : Sl} {ys : List Int} (hg : w.grownBy w2 s.blk) (ho : Own B8 5 0 w2 s2 ys) (hb : s2.blk = none ∨ s2.blk = s.blk ∨ ∃ b, s2.blk = some b ∧ w.heap.size ≤ b) :
    HasCell w2 o ∧ Wz (w2.setCell o s2.v) o s2 n ys (fun k => fp k ∨ (w.heap.size ≤ k ∧ k < w2.heap.size)) ∧ Gr fp w (w2.setCell o s2.v) := by
  have hbo := World.block_lt_of_cell? w _ h.c0
  have hne : some o.block ≠ s.blk := by intro e; exact (h.bl _ e.symm).2 rfl
  have c0 := keep_cell h.c0 hg hne
  have c1 := keep_cell h.c1 hg (by rw [add_block]; exact hne)
  have f0 : w2.frozen? o = false := by rw [World.grownBy.frozen_far hg o hbo hne]; exact h.f0
  have f1 : w2.frozen? (o.add 1) = false := by rw [World.grownBy.frozen_far hg (o.add 1) (by rw [add_block]; exact hbo) (by rw [add_block]; exact hne)]; exact h.f1
  have hg2 := grown_set w2 o s2.v
  have hs2 : ∀ b, s2.blk = some b → (fp b ∨ (w.heap.size ≤ b ∧ b < w2.heap.size)) ∧ b ≠ o.block := by
    intro b hb2
    have hlt := (ho.blk_ge b hb2).2
    rcases hb with h1 | h1 | ⟨b', h1, h2⟩
    · rw [h1] at hb2; cases hb2
    · rw [h1] at hb2; exact ⟨.inl (h.bl b hb2).1, (h.bl b hb2).2⟩
    · rw [h1] at hb2; cases hb2; exact ⟨.inr ⟨h2, hlt⟩, by omega⟩
  refine ⟨⟨⟨_, c0⟩, f0⟩, ⟨World.cell?_setCell_same _ _ _ c0, ?_, by simpa using f0, by simpa using f1, ?_, hs2, .inl h.fo, ?_⟩, ?_⟩
  · rw [World.cell?_setCell_other _ _ _ _ (off_ne o)]; exact c1
  · refine ho.kept hg2 ?_
    cases hk : s2.blk with
    | none => exact .inl rfl
    | some b => right; intro e; cases e; exact (hs2 _ hk).2 rfl
  · intro k hk
    have := hg.size
    have := hg2.size
    rcases hk with hk | hk
    · have := h.lt k hk; omega
    · omega
  · exact (Gr.row hg (fun b hb => (h.bl b hb).1)).trans (Gr.row hg2 (S := fp) (fun b hb => by cases hb; exact h.fo)) (fun _ _ hk => hk)
end

def cl (n : Int) : Nat := (min 64 (max 0 n)).toNat
theorem gr_drewN {S : Nat → Prop} {w w' : World} (h : Gr S w w') (m : Nat) : Gr S w (w'.drewN m) := ⟨h.os, h.tape, h.output, h.size, h.block⟩
theorem C43 {w : World} {o : Addr} {l : List Bool} {fp : Nat → Prop} {v n : Int} (h : Wr w o l fp) (hl : l.length ≤ 1000000) (hv0 : 0 ≤ v) (hv1 : v < 18446744073709551616) :
    Calls Try.prog 43 #[.pointer (some o), .int .u64 v, .int .i64 n] w (fun e w1 => e = .returned (.tuple #[] : Value) ∧ (∃ fp', Wr w1 o (l ++ bo v.toNat (cl n)) fp' ∧ Gr fp w w1 ∧ ∀ k, fp' k → fp k ∨ w.heap.size ≤ k)) := by
  refine F43_sound (some o) v n (fun w1 => ∃ fp', Wr w1 o (l ++ bo v.toNat (cl n)) fp' ∧ Gr fp w w1 ∧ ∀ k, fp' k → fp k ∨ w.heap.size ≤ k) w ?_
  unfold F43
  have hcl : (if 64 < (if 0 > n then 0 else n) then 64 else (if 0 > n then 0 else n)) = (cl n : Int) := by unfold cl; split <;> split <;> omega
  rw [hcl]
  have hN : cl n ≤ 64 := by unfold cl; omega
  generalize cl n = N at hN ⊢
  have hlt : ∀ k, fp k → k < w.heap.size := by obtain ⟨s, z⟩ := wr_iff.1 h; exact z.lt
  refine ⟨fun r wr => ∃ (r' : Nat) (fp' : Nat → Prop), r = (r' : Int) ∧ r' ≤ N ∧ Wr wr o (l ++ bo (v.toNat / 2 ^ r') (N - r')) fp' ∧ Gr fp w wr ∧ (∀ k, fp' k → fp k ∨ w.heap.size ≤ k), fun r _ => r.toNat,
    ⟨N, fp, rfl, by omega, by simpa [bo] using h, Gr.refl _ _, fun k hk => .inl hk⟩, ?_⟩
  rintro _ wr ⟨r, fq, rfl, hr, hw, hg, hfq⟩
  unfold F43_l1
  refine ⟨fun h0 => ?_, fun h0 => ?_⟩
  · generalize hL : l ++ bo (v.toNat / 2 ^ r) (N - r) = L at hw
    have hLl : L.length ≤ 1000064 := by rw [← hL, List.length_append, bo_len]; omega
    obtain ⟨s, z⟩ := wr_iff.1 hw
    have hroom : IntKind.i64.wrap (8 - Int.tmod (L.length : Int) 8) = ((8 - L.length % 8 : Nat) : Int) := by
      rw [tm (by omega), w_i64 (by omega) (by omega)]; omega
    generalize hk : min (8 - L.length % 8) r = k
    have hkk : (if (r : Int) < ((8 - L.length % 8 : Nat) : Int) then (r : Int) else ((8 - L.length % 8 : Nat) : Int)) = (k : Int) := by split <;> omega
    have hj2 : ∀ (wj : World) (sj : Sl) (fj : Nat → Prop), Wz wj o sj L.length (pkz L) fj → Gr fp w wj → (∀ k, fj k → fp k ∨ w.heap.size ≤ k) → F43_j2 (some o) v (r : Int) (fun s' w' => (∃ (r' : Nat) (fp' : Nat → Prop), s' = (r' : Int) ∧ r' ≤ N ∧ Wr w' o (l ++ bo (v.toNat / 2 ^ r') (N - r')) fp' ∧ Gr fp w w' ∧ (∀ k, fp' k → fp k ∨ w.heap.size ≤ k)) ∧ s'.toNat < ((r : Int)).toNat) (L.length : Int) wj := by
      intro wj sj fj zj gj hfj
      unfold F43_j2
      simp only [hroom, hkk]
      have hsn := zj.own.len
      rw [pkz_len] at hsn
      rw [w_i64 (n := (r : Int) - k) (by omega) (by omega), w_i64 (n := ((8 - L.length % 8 : Nat) : Int) - k) (by omega) (by omega)]
      refine ⟨by omega, by omega, ?_⟩
      rintro _ ⟨m, rfl⟩
      rintro _ rfl
      have g17 : Gr fp w (wj.drewN m).drew := gr_drewN (gr_drewN gj m) 1
      have z17 : Wz (wj.drewN m).drew o sj L.length (pkz L) fj := zj.keep (S := fun _ => False) (gr_drewN (gr_drewN (Gr.refl _ _) m) 1) (fun _ _ h => h)
      generalize (wj.drewN m).drew = w17 at g17 z17 ⊢
      have hi : (((sj.n : Int) - 1)).toNat = L.length / 8 := by omega
      obtain ⟨a, ha, hc, z25, g25⟩ := z17.row (L.length / 8) (by rw [pkz_len]; omega) (byteAt (L ++ bo (v.toNat / 2 ^ (r - k)) k) (L.length / 8) : Int)
      obtain ⟨a', ha', hcell⟩ := z17.own.rd.at (L.length / 8) (by rw [pkz_len]; omega)
      rw [ha] at ha'; cases ha'
      refine ⟨o, rfl, sj, z17.c0, o, rfl, sj, z17.c0, ?_⟩
      rw [w_i64 (n := (sj.n : Int) - 1) (by omega) (by omega), hi]
      have hcell' : w17.cell? (a.add (L.length / 8)) = some (B8 (byteAt L (L.length / 8) : Int)) := by rw [hcell]; simp [pkz]
      refine ⟨by omega, by omega, a, ha, _, hcell', by omega, by omega, by omega, a, ha, hc, ?_⟩
      have hput := put_byte (l := L) (v := v.toNat) (r := r) (k := k) hk.symm (by omega) (by omega) (by omega)
      rw [show ((v.toNat : Nat) : Int) = v by omega, show ((r - k : Nat) : Int) = (r : Int) - k by omega, show ((8 - L.length % 8 - k : Nat) : Int) = ((8 - L.length % 8 : Nat) : Int) - k by omega] at hput
      rw [hput]
      rintro _ rfl
      rw [pk_set L _ (by rw [bo_len]; omega) (by rw [bo_len]; omega)] at z25
      obtain ⟨hc29, z29, g29⟩ := z25.count ((L.length : Int) + k)
      refine ⟨o, rfl, _, z25.c1, o, rfl, hc29, ?_⟩
      rw [w_i64 (n := (L.length : Int) + k) (by omega) (by omega)]
      rintro _ rfl
      have sub : ∀ i, i < w.heap.size → fj i → fp i := fun i hi hf => by rcases hfj i hf with h | h; exact h; omega
      refine ⟨⟨r - k, fj, by omega, by omega, ?_, (g17.trans g25 sub).trans g29 sub, hfj⟩, by omega⟩
      rw [← put_row l v.toNat N r k hr (by omega), hL]
      refine wr_iff.2 ⟨sj, ?_⟩
      have e : ((L ++ bo (v.toNat / 2 ^ (r - k)) k).length : Int) = (L.length : Int) + k := by rw [List.length_append, bo_len]; omega
      rw [e]; exact z29
    refine ⟨o, rfl, _, z.c1, ?_⟩
    rw [hroom]
    refine ⟨fun h8 => ?_, fun h8 => ?_⟩
    · refine ⟨o, rfl, s, z.c0, ?_⟩
      rintro _ rfl
      obtain ⟨s2, w2, h1, h2⟩ := ap_one (ty := 22) (w := wr) ty22 b8one z.own 0 (Nat.zero_le _) (by rw [pk_len]; omega)
      obtain ⟨hc, z2, g2⟩ := z.slice h2.grown h2.own (by rcases h2.blk with h | h; exact .inr (.inl h); exact .inr (.inr h))
      refine ⟨s2, w2, h1, o, rfl, hc, ?_⟩
      rintro _ rfl
      rw [pkz_new L (by omega)] at z2
      refine hj2 _ s2 _ z2 (hg.trans g2 (fun i hi hf => by rcases hfq i hf with h | h; exact h; omega)) ?_
      have := hg.size
      intro k hk
      rcases hk with hk | hk
      · exact hfq k hk
      · right; omega
    · rw [pkz_of L (by omega)] at z
      exact hj2 wr s fq z hg hfq
  · have : r = 0 := by omega
    subst this
    simp only [Nat.pow_zero, Nat.div_one, Nat.sub_zero] at hw
    exact ⟨fq, hw, hg, hfq⟩
end Go.Proofs.Ythhcaaellhdkiaa
