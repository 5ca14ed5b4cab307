/- SumPieces: the walk. -/
import Derived.Test.YtjgijifankaglaaHL
namespace Go.Proofs.Ytjgijifankaglaa
open Go Go.RowKit Go.Proofs.Ytjgijifankaglaa.SX
set_option linter.unusedVariables false

abbrev RW (r : Sl × List Int) : Value := .slice r.1.a r.1.n r.1.c
def pc (rs : List (Sl × List Int)) (j : Nat) : List Int := match rs[j]? with | some r => r.2.take 2000 | none => []
def cat (f : Nat → List Int) (i : Nat) : List Int := (List.range i).flatMap f
theorem cat_succ (f : Nat → List Int) (i : Nat) : cat f (i + 1) = cat f i ++ f i := by unfold cat; rw [List.range_succ, List.flatMap_append]; simp
theorem cat_len {f : Nat → List Int} (h : ∀ j, (f j).length ≤ 2000) : ∀ i, (cat f i).length ≤ 2000 * i
  | 0 => Nat.le_refl _
  | i + 1 => by have := h i; have := cat_len h i; rw [cat_succ, List.length_append]; omega
theorem cat_bys {f : Nat → List Int} (h : ∀ j, bys (f j)) (i : Nat) : bys (cat f i) := by
  intro x hx
  unfold cat at hx
  obtain ⟨j, _, hj⟩ := List.mem_flatMap.1 hx
  exact h j x hj
theorem pc_len (rs : List (Sl × List Int)) (j : Nat) : (pc rs j).length ≤ 2000 := by
  unfold pc
  split
  · rw [List.length_take]; omega
  · simp
theorem pc_bys {rs : List (Sl × List Int)} (h : ∀ r ∈ rs, bys r.2) (j : Nat) : bys (pc rs j) := by
  unfold pc
  split
  · rename_i r hr
    exact fun x hx => h r (List.mem_of_getElem? hr) x (List.mem_of_mem_take hx)
  · exact fun x hx => nomatch hx
/-- a piece is read, and its head -/
theorem piece {w : World} {l : Sl} {rs : List (Sl × List Int)} (hl : Rd RW w l rs) (hr : ∀ r ∈ rs, Rd B8 w r.1 r.2) {j : Nat} (hj : j < l.n) :
    ∃ (a : Addr) (s t : Sl), l.a = some a ∧ w.cell? (a.add j) = some (.slice s.a s.n s.c) ∧ (∀ w' : World, (Instr.sliceAt 33 (.slice s.a s.n s.c : Value) none (some (.int .i64 (if 2000 < ((s.n : Int)) then 2000 else ((s.n : Int))) : Value)) none).run Try.prog w' = .ok (.slice t.a t.n t.c : Value) w') ∧ Rd B8 w t (pc rs j) ∧ t.n = (pc rs j).length := by
  have hjl : j < rs.length := by rw [hl.1]; exact hj
  obtain ⟨a, ha, hc⟩ := hl.at j hjl
  have hrd := hr _ (List.getElem_mem hjl)
  have hn := hrd.1
  have hpc : pc rs j = rs[j].2.take 2000 := by unfold pc; rw [List.getElem?_eq_getElem hjl]
  have hm : ∃ m : Nat, (if 2000 < ((rs[j].1.n : Int)) then (2000 : Int) else ((rs[j].1.n : Int))) = (m : Int) ∧ m ≤ rs[j].2.length ∧ rs[j].2.take m = pc rs j ∧ m = (pc rs j).length := by
    rw [hpc]
    by_cases h : 2000 < rs[j].1.n
    · exact ⟨2000, by rw [if_pos (by omega)]; rfl, by omega, rfl, by rw [List.length_take]; omega⟩
    · exact ⟨rs[j].1.n, by rw [if_neg (by omega)], by omega, by rw [List.take_of_length_le (by omega), List.take_of_length_le (by omega)], by rw [List.length_take]; omega⟩
  obtain ⟨m, hm1, hm2, hm3, hm4⟩ := hm
  obtain ⟨t, ht1, ht2⟩ := rd_hi hrd _ m hm1 hm2
  rw [hm3] at ht2
  exact ⟨a, rs[j].1, t, ha, hc, ht1, ht2, ht2.1.symm⟩
theorem F8_spec {w : World} {l : Sl} {rs : List (Sl × List Int)} {often : Int} (hl : Rd RW w l rs) (hr : ∀ r ∈ rs, Rd B8 w r.1 r.2) (hby : ∀ r ∈ rs, bys r.2) (ho : -9223372036854775808 ≤ often ∧ often ≤ 9223372036854775807) :
    Calls Try.prog 8 #[.slice l.a l.n l.c, .int .i64 often] w (fun e w1 => ∃ (r0 : Bool), e = .returned (.bool r0) ∧ (r0 = true ∧ Below w.heap.size w w1)) := by
  refine F8_sound l often (fun r0 w1 => r0 = true ∧ Below w.heap.size w w1) w ?_
  unfold F8
  have hln := hl.2.2.1
  have hlc := hl.2.1
  simp only [maxLen] at hln
  refine (C38 w).mono ?_
  rintro _ w4 ⟨_, rfl, rfl, B⟩
  refine ⟨_, rfl, ?_⟩
  refine (new_ho w4).mono ?_
  rintro _ w6 ⟨_, rfl, rfl, H1, b6⟩
  refine ⟨_, rfl, ?_⟩
  have z4 := B.size
  have g1l := H1.2 _ rfl
  refine (new_ho w6).mono ?_
  rintro _ w8 ⟨_, rfl, rfl, H2, b8⟩
  have g2l := H2.2 _ rfl
  have H1 := H1.below b8
  have z6 := b6.size
  have z8 := b8.size
  have B := (B.trans (b6.mono B.size))
  have B := (B.trans (b8.mono B.size))
  refine ⟨_, rfl, (fun h => nomatch h), fun _ => ⟨(fun h => nomatch h), fun _ => ⟨(fun h => nomatch h), fun _ => ?_⟩⟩⟩
  obtain ⟨n, hn1, hn2, hn3⟩ : ∃ n : Nat, (if 200 < ((l.n : Int)) then (200 : Int) else ((l.n : Int))) = (n : Int) ∧ n ≤ l.n ∧ n ≤ 200 := by
    by_cases h : 200 < l.n
    · exact ⟨200, by rw [if_pos (by omega)]; rfl, by omega, by omega⟩
    · exact ⟨l.n, by rw [if_neg (by omega)], by omega, by omega⟩
  have hj1 : ∀ q : Int, 0 ≤ q → q ≤ 9223372036854775807 → F8_j1 l (fun r0 w1 => r0 = true ∧ Below w.heap.size w w1) (some ⟨w4.heap.size, 0, none⟩) (some ⟨w6.heap.size, 0, none⟩) q w8 := by
    intro q hq0 hq1
    unfold F8_j1
    refine (C46 w8).mono ?_
    rintro _ w12 ⟨_, rfl, rfl, H3, b12, g3l⟩
    refine ⟨_, rfl, ?_⟩
    refine (C46 w12).mono ?_
    rintro _ w14 ⟨_, rfl, rfl, H4, b14, g4l⟩
    refine ⟨_, rfl, ?_⟩
    have H1 := (H1.below b12).below b14
    have H2 := (H2.below b12).below b14
    have H3 := H3.gr (Gr.below (S := fun _ => False) b14) (fun _ _ h => h)
    have B := (B.trans (b12.mono B.size))
    have B := (B.trans (b14.mono B.size))
    generalize hg1 : w4.heap.size = g1 at *
    generalize hg2 : w6.heap.size = g2 at *
    generalize hg3 : w8.heap.size = g3 at *
    generalize hg4 : w12.heap.size = g4 at *
    have h0 : S4 w w14 g1 g2 g3 g4 (fun k => if k = g1 then 1 else if k = g2 then 2 else if k = g3 then 3 else if k = g4 then 4 else 0) (cat (pc rs) 0) (cat (fun j => pc rs (n - 1 - j)) 0) (cat (pc rs) 0) (cat (fun j => pc rs (n - 1 - j)) 0) := by
      refine ⟨H1.1.wide (fun k hk => ?_), H2.1.wide (fun k hk => ?_), H3.wide (fun k hk => ?_), H4.wide (fun k hk => ?_), fun k hk => ?_, B⟩
      · rw [if_pos hk]
      · (try dsimp only at hk); rw [if_neg (by omega), if_pos hk]
      · (try dsimp only at hk); rw [if_neg (by omega), if_neg (by omega), if_pos hk]
      · (try dsimp only at hk); rw [if_neg (by omega), if_neg (by omega), if_neg (by omega), if_pos hk]
      · (try dsimp only at hk)
        split at hk
        · omega
        · split at hk
          · omega
          · split at hk
            · omega
            · split at hk
              · omega
              · exact absurd rfl hk
    clear H1 H2 H3 H4
    refine ⟨fun st wr => ∃ (i : Nat) (c : Nat → Nat), st = (i : Int) ∧ i ≤ n ∧ S4 w wr g1 g2 g3 g4 c (cat (pc rs) i) (cat (fun j => pc rs (n - 1 - j)) i) (cat (pc rs) i) (cat (fun j => pc rs (n - 1 - j)) i), fun st _ => (n - st).toNat, ⟨0, _, rfl, by omega, h0⟩, ?_⟩
    clear h0 B
    rintro _ wr ⟨i, c, rfl, hi, H⟩
    have la := cat_len (pc_len rs) i
    have lb := cat_len (fun j => pc_len rs (n - 1 - j)) i
    have la1 := cat_len (pc_len rs) (i + 1)
    have lb1 := cat_len (fun j => pc_len rs (n - 1 - j)) (i + 1)
    have ya := fun i => cat_bys (pc_bys hby) i
    have yb := fun i => cat_bys (fun j => pc_bys hby (n - 1 - j)) i
    have sa := cat_succ (pc rs) i
    have sb := cat_succ (fun j => pc rs (n - 1 - j)) i
    unfold F8_l2
    rw [hn1]
    refine ⟨fun hlt => ?_, fun hge => ?_⟩
    · have hin : i < n := by omega
      obtain ⟨p1, s1, t1, hp1, hc1, hs1, hr1, hl1⟩ := piece hl hr (j := i) (by omega)
      obtain ⟨p2, s2, t2, hp2, hc2, hs2, hr2, hl2⟩ := piece hl hr (j := n - 1 - i) (by omega)
      have e1 : IntKind.i64.wrap ((IntKind.i64.wrap ((n : Int) - 1)) - (i : Int)) = ((n - 1 - i : Nat) : Int) := by rw [w_i64 (n := (n : Int) - 1) (by omega) (by omega), w_i64 (by omega) (by omega)]; omega
      rw [e1, Int.toNat_natCast, Int.toNat_natCast]
      have cell1 : ∀ x : World, Below w.heap.size w x → x.cell? (p1.add i) = some (.slice s1.a s1.n s1.c) := fun x hx => by rw [hx.cell (World.block_lt_of_cell? w _ hc1)]; exact hc1
      have cell2 : ∀ x : World, Below w.heap.size w x → x.cell? (p2.add (n - 1 - i)) = some (.slice s2.a s2.n s2.c) := fun x hx => by rw [hx.cell (World.block_lt_of_cell? w _ hc2)]; exact hc2
      refine ⟨by omega, by omega, p1, hp1, s1, cell1 _ H.bel, by omega, by omega, p1, hp1, s1, cell1 _ H.bel, t1, fun m => hs1 _, ?_⟩
      rintro w22 ⟨m, hm⟩
      have H := H.below (w' := w22) (by rw [hm]; exact below_draw (Below.refl _ _) m)
      clear hm
      refine ⟨by omega, by omega, p2, hp2, s2, cell2 _ H.bel, by omega, by omega, p2, hp2, s2, cell2 _ H.bel, t2, fun m => hs2 _, ?_⟩
      rintro w28 ⟨m, hm⟩
      have H := H.below (w' := w28) (by rw [hm]; exact below_draw (Below.refl _ _) m)
      clear hm
      have hzw := H.bel.size
      have lp1 := pc_len rs i
      have lp2 := pc_len rs (n - 1 - i)
      refine (C39 (hr1.below H.bel) (by omega)).mono ?_
      rintro _ w30 ⟨x, rfl, ox, b30⟩
      have hxk := ox.blk_ge
      have hlt28 := H.lt
      have H := H.below b30
      refine ⟨x, rfl, ?_⟩
      refine (C39 (hr2.below H.bel) (by omega)).mono ?_
      rintro _ w32 ⟨y, rfl, oy, b32⟩
      have hyk := oy.blk_ge
      have H := H.below b32
      have ox := ox.below b32
      have z30 := b30.size
      have z32 := b32.size
      refine ⟨y, rfl, ?_⟩
      obtain ⟨hxc, hxr⟩ := lent_head ox
      refine ⟨⟨x.a, (pc rs i).length, x.c⟩, cut_hi (w := w32) ty22 x _ _ (by rw [hl1]) hxc, ?_⟩
      have cx : ∀ k, x.blk = some k → c k = 0 := fun k hk => by
        have h1 := (hxk k hk).1
        by_cases h : c k = 0
        · exact h
        · have := (hlt28 k h).2; omega
      have cy : ∀ k, y.blk = some k → c k = 0 := fun k hk => by
        have h1 := (hyk k hk).1
        by_cases h : c k = 0
        · exact h
        · have := (hlt28 k h).2; omega
      refine (H.wr1 hxr (fun p hp _ => cx _ (ox.a_blk p hp)) (by omega)).mono ?_
      rintro _ w34 ⟨rfl, c1, H, q1, hc1'⟩
      refine ⟨rfl, ?_⟩
      have ox := q1.own ox (fun k hk h => by have := cx k hk; omega)
      have oy := q1.own oy (fun k hk h => by have := cy k hk; omega)
      have cx1 : ∀ k, x.blk = some k → c1 k = 0 := fun k hk => by
        by_cases h : c1 k = 0
        · exact h
        · rcases hc1' k h with h1 | h1
          · exact absurd (cx k hk) h1
          · have := (hxk k hk).2; omega
      have cy1 : ∀ k, y.blk = some k → c1 k = 0 := fun k hk => by
        by_cases h : c1 k = 0
        · exact h
        · rcases hc1' k h with h1 | h1
          · exact absurd (cy k hk) h1
          · have := (hyk k hk).2; omega
      obtain ⟨hyc, hyr⟩ := lent_head oy
      refine ⟨⟨y.a, (pc rs (n - 1 - i)).length, y.c⟩, cut_hi (w := w34) ty22 y _ _ (by rw [hl2]) hyc, ?_⟩
      have z34 := q1.size
      refine (H.wr2 hyr (fun p hp _ => cy1 _ (oy.a_blk p hp)) (by omega)).mono ?_
      rintro _ w36 ⟨rfl, c2, H, q2, hc2'⟩
      refine ⟨rfl, ?_⟩
      have ox := q2.own ox (fun k hk h => by have := cx1 k hk; omega)
      have oy := q2.own oy (fun k hk h => by have := cy1 k hk; omega)
      have cx2 : ∀ k, x.blk = some k → c2 k = 0 := fun k hk => by
        by_cases h : c2 k = 0
        · exact h
        · rcases hc2' k h with h1 | h1
          · exact absurd (cx1 k hk) h1
          · have := (hxk k hk).2; omega
      have cy2 : ∀ k, y.blk = some k → c2 k = 0 := fun k hk => by
        by_cases h : c2 k = 0
        · exact h
        · rcases hc2' k h with h1 | h1
          · exact absurd (cy1 k hk) h1
          · have := (hyk k hk).2; omega
      refine (C42 ox.rd (hr1.below H.bel)).mono ?_
      rintro _ w38 ⟨_, rfl, rfl, bq⟩
      have H := H.below bq
      have ox := ox.below bq
      have oy := oy.below bq
      refine ⟨_, rfl, ?_⟩
      refine (C42 oy.rd (hr2.below H.bel)).mono ?_
      rintro _ w40 ⟨_, rfl, rfl, bq⟩
      have H := H.below bq
      have ox := ox.below bq
      have oy := oy.below bq
      refine ⟨_, rfl, (fun h => nomatch h), fun _ => ⟨(fun h => nomatch h), fun _ => ?_⟩⟩
      have xw : ∀ k, x.blk = some k → w.heap.size ≤ k := fun k hk => by have := (hxk k hk).1; omega
      have yw : ∀ k, y.blk = some k → w.heap.size ≤ k := fun k hk => by have := (hyk k hk).1; omega
      have xy : ∀ k, y.blk = some k → ¬ x.blk = some k := fun k hk h => by have := (hyk k hk).1; have := (hxk k h).2; omega
      refine ⟨fun st wq => ∃ (j : Nat) (xs : List Int), st = (j : Int) ∧ j ≤ x.n ∧ Own B8 5 w28.heap.size wq x xs ∧ Own B8 5 w30.heap.size wq y (pc rs (n - 1 - i) ++ List.replicate 8 201) ∧ S4 w wq g1 g2 g3 g4 c2 (cat (pc rs) i ++ pc rs i) (cat (fun j => pc rs (n - 1 - j)) i ++ pc rs (n - 1 - i)) (cat (pc rs) i) (cat (fun j => pc rs (n - 1 - j)) i), fun st _ => (x.n - st).toNat, ⟨0, _, rfl, by omega, ox, oy, H⟩, ?_⟩
      have hxlen := ox.len
      have hylen := oy.len
      rw [List.length_append, List.length_replicate] at hxlen hylen
      clear H ox oy hxr hyr
      rintro _ wq ⟨j, xs, rfl, hj, ox, oy, H⟩
      unfold F8_l3
      have hxl := ox.len
      refine ⟨fun hlt => ?_, fun hge => ?_⟩
      · obtain ⟨a, ha, hblk, hcell, o2, g2⟩ := ox.set j (by omega) 7
        refine ⟨by omega, hlt, a, ha, by rw [Int.toNat_natCast]; exact hcell, ?_⟩
        rw [Int.toNat_natCast]
        rintro _ rfl
        rw [w_i64 (by omega) (by omega)]
        have q : Gr (fun k => x.blk = some k) wq _ := Gr.row g2 (fun k hk => hk)
        exact ⟨⟨j + 1, _, by omega, by omega, o2, q.own oy xy, H.keep q xw (fun k hk h => hk (cx2 k h))⟩, by (try dsimp only); omega⟩
      · clear hge hxl hj
        refine ⟨fun st wq => ∃ (j : Nat) (ys : List Int), st = (j : Int) ∧ j ≤ y.n ∧ Own B8 5 w30.heap.size wq y ys ∧ S4 w wq g1 g2 g3 g4 c2 (cat (pc rs) i ++ pc rs i) (cat (fun j => pc rs (n - 1 - j)) i ++ pc rs (n - 1 - i)) (cat (pc rs) i) (cat (fun j => pc rs (n - 1 - j)) i), fun st _ => (y.n - st).toNat, ⟨0, _, rfl, by omega, oy, H⟩, ?_⟩
        clear H ox oy
        rintro _ wq ⟨j, ys, rfl, hj, oy, H⟩
        unfold F8_l4
        have hyl := oy.len
        refine ⟨fun hlt => ?_, fun hge => ?_⟩
        · obtain ⟨a, ha, hblk, hcell, o2, g2⟩ := oy.set j (by omega) 7
          refine ⟨by omega, hlt, a, ha, by rw [Int.toNat_natCast]; exact hcell, ?_⟩
          rw [Int.toNat_natCast]
          rintro _ rfl
          rw [w_i64 (by omega) (by omega)]
          have q : Gr (fun k => y.blk = some k) wq _ := Gr.row g2 (fun k hk => hk)
          exact ⟨⟨j + 1, _, by omega, by omega, o2, H.keep q yw (fun k hk h => hk (cy2 k h))⟩, by (try dsimp only); omega⟩
        · refine (H.wr34 hr1 hr2 (by omega) (by omega)).mono ?_
          rintro _ w49 ⟨rfl, hcall⟩
          refine ⟨rfl, hcall.mono ?_⟩
          rintro _ w50 ⟨rfl, c3, H⟩
          rw [← sa, ← sb] at H
          refine ⟨rfl, ?_⟩
          have hq4 := Int.emod_nonneg q (b := 4) (by omega)
          have hq5 := Int.emod_lt_of_pos q (b := 4) (by omega)
          have e4 : IntKind.i64.wrap ((Int.tmod q 4) + 1) = q % 4 + 1 := by rw [Int.tmod_eq_emod_of_nonneg hq0, w_i64 (by omega) (by omega)]
          rw [e4]
          have hnext : IntKind.i64.wrap ((i : Int) + 1) = ((i + 1 : Nat) : Int) := by rw [w_i64 (by omega) (by omega)]; omega
          rw [hnext]
          have hla := pc_len rs i
          have fin : ∀ wz, S4 w wz g1 g2 g3 g4 c3 (cat (pc rs) (i + 1)) (cat (fun j => pc rs (n - 1 - j)) (i + 1)) (cat (pc rs) (i + 1)) (cat (fun j => pc rs (n - 1 - j)) (i + 1)) → (∃ (i' : Nat) (c : Nat → Nat), ((i + 1 : Nat) : Int) = (i' : Int) ∧ i' ≤ n ∧ S4 w wz g1 g2 g3 g4 c (cat (pc rs) i') (cat (fun j => pc rs (n - 1 - j)) i') (cat (pc rs) i') (cat (fun j => pc rs (n - 1 - j)) i')) ∧ ((n : Int) - ((i + 1 : Nat) : Int)).toNat < ((n : Int) - (i : Int)).toNat := fun wz H => ⟨⟨i + 1, c3, rfl, by omega, H⟩, by omega⟩
          refine ⟨by omega, fun _ => ?_, fun _ => fin _ H⟩
          refine (H.sm1 (by omega)).mono ?_
          rintro _ w52 ⟨_, rfl, rfl, H⟩
          refine ⟨_, rfl, ?_⟩
          refine (H.sm3 (ya _) (by omega)).mono ?_
          rintro _ w54 ⟨_, rfl, rfl, H⟩
          refine ⟨_, rfl, false, neq_dig _ _ _ _, (fun h => nomatch h), fun _ => ?_⟩
          refine (H.sm1 (by omega)).mono ?_
          rintro _ w57 ⟨_, rfl, rfl, H⟩
          refine ⟨_, rfl, ?_⟩
          refine (H.sm3 (ya _) (by omega)).mono ?_
          rintro _ w59 ⟨_, rfl, rfl, H⟩
          exact ⟨_, rfl, false, neq_dig _ _ _ _, (fun h => nomatch h), fun _ => fin _ H⟩
    · refine (H.sm1 (by omega)).mono ?_
      rintro _ w62 ⟨_, rfl, rfl, H⟩
      refine ⟨_, rfl, ?_⟩
      refine (H.sm3 (ya _) (by omega)).mono ?_
      rintro _ w64 ⟨_, rfl, rfl, H⟩
      refine ⟨_, rfl, true, eq_dig _ _ _ _, fun _ => ?_, (fun h => nomatch h)⟩
      refine (H.sm2 (by omega)).mono ?_
      rintro _ w67 ⟨_, rfl, rfl, H⟩
      refine ⟨_, rfl, ?_⟩
      refine (H.sm4 (yb _) (by omega)).mono ?_
      rintro _ w69 ⟨_, rfl, rfl, H⟩
      exact ⟨_, rfl, true, eq_dig _ _ _ _, rfl, H.bel⟩
  refine ⟨fun h => ?_, fun h => hj1 _ (by omega) (by omega)⟩
  rw [w_i64 (n := often + 1) (by omega) (by omega), w_i64 (by omega) (by omega)]
  exact hj1 _ (by omega) (by omega)
end Go.Proofs.Ytjgijifankaglaa
