/- The law NumPuts, but for its frame. -/
import Derived.Test.YthhcaaellhdkiaaFO
import Derived.Test.YthhcaaellhdkiaaGN3
namespace Go.Proofs.Ythhcaaellhdkiaa
open Go Go.RowKit Go.Proofs.Ythhcaaellhdkiaa.SX
set_option linter.unusedVariables false

theorem Bo.toGrown {c : Nat} {w w' : World} (h : Bo c w.heap.size w w') : w.grownBy w' (some c) := ⟨h.os, h.tape, h.output, h.size, fun k hk hc => h.block k hk (fun e => hc (by rw [e]))⟩
def want3 (n m : Int) (xs ys : List Int) (j : Nat) : List Int := if j = 0 then xs ++ uv n.toNat else if j = 1 then xs ++ uv (zig m).toNat else xs ++ uv ys.length ++ ys

theorem F3_j1_spec {n m : Int} {b s x y : Sl} {xs ys : List Int} {w w6 w12 w0 : World} {want : Addr} (hn0 : 0 ≤ n) (hn1 : n < 18446744073709551616) (hm1 : -9223372036854775808 ≤ m) (hm2 : m ≤ 9223372036854775807)
    (hb : Rd B8 w b xs) (hxs : bys xs) (hs : Rd B8 w s ys) (hys : bys ys) (hbl : xs.length ≤ 536870912) (hsl : ys.length ≤ 536870912)
    (ho : w12.cell? ⟨w6.heap.size, 0, none⟩ = some (Sl.v ⟨none, 0, 0⟩)) (ho1 : w12.cell? ((⟨w6.heap.size, 0, none⟩ : Addr).add 1) = some (Sl.v ⟨none, 0, 0⟩)) (hf : w12.frozen? ⟨w6.heap.size, 0, none⟩ = false) (hf1 : w12.frozen? ((⟨w6.heap.size, 0, none⟩ : Addr).add 1) = false)
    (ox : Own B8 5 (w6.heap.size + 1) w12 x (xs ++ List.replicate 8 201)) (oy : Own B8 5 (w6.heap.size + 1) w12 y (ys ++ List.replicate 8 201)) (hxy : ∀ k, x.blk = some k → y.blk ≠ some k) (hw6 : w.heap.size ≤ w6.heap.size)
    (hw : Below w.heap.size w w12) (h0 : Below w12.heap.size w12 w0) (hwb : w12.heap.size ≤ want.block ∧ want.block < w0.heap.size) (hwant : ∀ j, j < 3 → w0.cell? (want.add j) = some (.string (strOfNums (want3 n m xs ys j)))) :
    F3_j1 b n m s (fun r w1 => r = true ∧ Below w.heap.size w w1) true w6 x y want w0 := by
  unfold F3_j1
  have hbn := hb.len
  have hsn := hs.len
  have hxn := ox.len
  have hyn := oy.len
  simp only [List.length_append, List.length_replicate] at hxn hyn
  have hz := zig_range hm1 hm2
  have hLn : n.toNat < 18446744073709551616 := by omega
  have hu0 := uv_len10 hLn
  have hu1 := uv_len10 hz.2
  have hu2 := uv_len10 (n := ys.length) (by omega)
  have hww0 := hw.trans (h0.mono hw.size)
  have X0 := ox.below h0
  have Y0 := oy.below h0
  have hol := World.block_lt_of_cell? w12 _ ho
  simp only at hol
  have f0 : Fo w0.heap.size ⟨w6.heap.size, 0, none⟩ ⟨none, 0, 0⟩ [] 0 0 (fun _ => 0) w0 ⟨none, 0, 0⟩ ⟨none, 0, 0⟩ [] [] (fun _ => []) [] :=
    { co := by rw [h0.cell hol]; exact ho, cm := by rw [h0.cell (by rw [add_block]; exact hol)]; exact ho1, fo := by rw [h0.frozen hol]; exact hf, fm := by rw [h0.frozen (by rw [add_block]; exact hol)]; exact hf1, ob := rfl, ol := Own.nil, om := Own.nil, oa := Own.nil, oi := fun i hi => by simp at hi, tl := fun a ha => (nomatch ha), tm := fun a ha => (nomatch ha), ta := fun a ha => (nomatch ha), ti := fun i hi => by simp at hi, rd := fun s m hm => (nomatch hm) }
  have htx : (xs ++ List.replicate 8 (201 : Int)).take xs.length = xs := by simp
  have hty : (ys ++ List.replicate 8 (201 : Int)).take ys.length = ys := by simp
  obtain ⟨xc, hxcut, hxr⟩ := rd_hi X0.rd (b.n : Int) xs.length (by omega) (by simp)
  obtain ⟨yc, hycut, hyr⟩ := rd_hi Y0.rd (s.n : Int) ys.length (by omega) (by simp)
  rw [htx] at hxr
  rw [hty] at hyr
  refine ⟨fun st wr => ∃ (t : Nat) (ls : List Sl) (tag : Nat → Nat) (cont : Nat → List Int), st.2 = (t : Int) ∧ t ≤ 3 ∧ ls.length = 3 * t ∧ Fo w0.heap.size ⟨w6.heap.size, 0, none⟩ st.1 ls 0 0 tag wr ⟨none, 0, 0⟩ ⟨none, 0, 0⟩ [] [] cont [] ∧ Below w0.heap.size w0 wr ∧ (∀ i, i < ls.length → cont i = want3 n m xs ys (i % 3)),
    fun st _ => 3 - st.2.toNat, ⟨0, [], _, _, rfl, by omega, rfl, f0, Below.refl _ _, fun i hi => by simp at hi⟩, ?_⟩
  clear f0
  rintro ⟨all, _⟩ wr ⟨t, ls, tag, cont, rfl, ht, hlt, f, hB, hcont⟩
  dsimp only at f
  unfold F3_l2
  refine ⟨fun ht3 => ?_, fun ht3 => ?_⟩
  · rintro _ rfl
    have fd := f.keep (grown_drew wr)
    have hBd : Below w0.heap.size w0 wr.drew := hB.drew
    refine ⟨xc, hxcut _, xc, hxcut _, xc, hxcut _, yc, hycut _, ?_⟩
    refine C17 (n := n.toNat) (by omega) (hxr.below hBd) (by omega) hLn ?_
    intro s0 wa o0 ba
    refine ⟨hycut _, hxcut _, hxcut _, ?_⟩
    have hBa := hBd.trans (ba.mono hBd.size)
    refine C18 (hxr.below hBa) (by omega) hm1 hm2 ?_
    intro s1 wc o1 bc
    refine ⟨hycut _, hxcut _, ?_⟩
    have hBc := hBa.trans (bc.mono hBa.size)
    refine C19 (hxr.below hBc) (hyr.below hBc) (by omega) ?_
    intro s2 w1 o2 b1
    have hB1 := hBc.trans (b1.mono hBc.size)
    rintro _ rfl
    obtain ⟨l2, w2, tag2, hrun, f2, hg2, hge⟩ := fd.add3 hBd.size ba bc b1 o0 o1 o2 (by omega)
    refine ⟨l2, w2, hrun, ?_⟩
    have hB2 : Below w0.heap.size w0 w2 := (hB1.alloc hB1.size _).grown hg2 (Nat.le_trans hB1.size (by simp)) hge
    refine (C20 ((X0.below hB2).rd) (hb.below (hww0.trans (hB2.mono hww0.size))) (by omega)).mono ?_
    rintro _ w44 ⟨_, rfl, rfl, b44⟩
    have hB44 := hB2.trans (b44.mono hB2.size)
    refine ⟨true, rfl, ?_⟩
    refine (C20 ((Y0.below hB44).rd) (hs.below (hww0.trans (hB44.mono hww0.size))) (by omega)).mono ?_
    rintro _ w46 ⟨_, rfl, rfl, b46⟩
    refine ⟨true, rfl, fun h => (nomatch h), fun _ => ⟨fun h => (nomatch h), fun _ => ?_⟩⟩
    have hB46 := hB44.trans (b46.mono hB44.size)
    refine ⟨⟨t + 1, _, tag2, _, ?_, by omega, by simp; omega, f2.keep ((grown_of_below' b44 none).trans (grown_of_below' b46 none)), hB46, ?_⟩, ?_⟩
    · show IntKind.i64.wrap ((t : Int) + 1) = _
      rw [w_i64 (by omega) (by omega)]; omega
    · intro i hi
      simp only [List.length_append, List.length_cons, List.length_nil] at hi
      by_cases h1 : i = ls.length
      · rw [if_pos h1, show i % 3 = 0 by omega]; simp [want3]
      · by_cases h2 : i = ls.length + 1
        · rw [if_neg h1, if_pos h2, show i % 3 = 1 by omega]; simp [want3]
        · by_cases h3 : i = ls.length + 2
          · rw [if_neg h1, if_neg h2, if_pos h3, show i % 3 = 2 by omega]; simp [want3]
          · rw [if_neg h1, if_neg h2, if_neg h3]; exact hcont i (by omega)
    · show 3 - (IntKind.i64.wrap ((t : Int) + 1)).toNat < 3 - ((t : Int)).toNat
      rw [w_i64 (by omega) (by omega)]; omega
  · have ht' : t = 3 := by omega
    subst ht'
    have hal := f.oa.len
    refine ⟨fun i wr => ∃ (k : Nat), i = (k : Int) ∧ k ≤ 9 ∧ Fo w0.heap.size ⟨w6.heap.size, 0, none⟩ all ls 0 0 tag wr ⟨none, 0, 0⟩ ⟨none, 0, 0⟩ [] [] cont [] ∧ Below w0.heap.size w0 wr, fun i _ => 9 - i.toNat, ⟨0, rfl, by omega, f, hB⟩, ?_⟩
    clear f hB
    rintro _ wr ⟨k, rfl, hk, f, hB⟩
    unfold F3_l3
    refine ⟨fun hk9 => ?_, fun hk9 => ?_⟩
    · obtain ⟨a, ha, hc⟩ := f.oa.rd.at k (by omega)
      have hi := f.oi k (by omega) (by omega)
      rw [hcont k (by omega)] at hi
      rw [tm (by omega)]
      have hk3 : ((k : Int) % 3).toNat = k % 3 := by omega
      refine ⟨by omega, by omega, a, ha, ls[k]'(by omega), by simpa using hc, _, fun mm => rd_str (hi.rd.below (below_drewN (Below.refl _ _) mm)), by omega, by omega, _, by rw [hk3, hB.cell (by rw [add_block]; exact hwb.2)]; exact hwant _ (by omega), ?_⟩
      rintro _ ⟨mm, rfl⟩
      refine ⟨fun hne => absurd rfl hne, fun _ => ⟨⟨k + 1, ?_, by omega, f.keep (grown_of_below' (below_drewN (Below.refl _ _) mm) none), below_drewN hB mm⟩, ?_⟩⟩
      · rw [w_i64 (by omega) (by omega)]; omega
      · show 9 - (IntKind.i64.wrap ((k : Int) + 1)).toNat < 9 - ((k : Int)).toNat
        rw [w_i64 (by omega) (by omega)]; omega
    · have hl9 : ∀ i, i < ls.length → (cont i).length + 100 ≤ 140737488355328 := by
        intro i hi
        rw [hcont i hi]
        unfold want3
        split
        · simp; omega
        · split
          · simp; omega
          · simp; omega
      have hob : w6.heap.size < w0.heap.size := by have := h0.size; omega
      refine (D21 (Nat.le_refl _) (Bo.of hB) f (by omega) hl9).mono ?_
      rintro _ w54 ⟨rfl, B54, hfull⟩
      refine ⟨rfl, ?_⟩
      refine (C22 hfull).mono ?_
      rintro _ w56 ⟨_, rfl, rfl, b56⟩
      refine ⟨true, rfl, ?_⟩
      have xbk : X0.1 = X0.1 := rfl
      have xne : x.blk = none ∨ x.blk ≠ some w6.heap.size := by
        cases hk : x.blk with
        | none => exact .inl rfl
        | some k => right; intro e; cases e; have := (ox.blk_ge _ hk).1; omega
      have yne : y.blk = none ∨ y.blk ≠ some w6.heap.size := by
        cases hk : y.blk with
        | none => exact .inl rfl
        | some k => right; intro e; cases e; have := (oy.blk_ge _ hk).1; omega
      have X1 := (X0.kept B54.toGrown xne).below b56
      have Y1 := (Y0.kept B54.toGrown yne).below b56
      have D56 : Below w.heap.size w w56 := by
        have h1 : Below w.heap.size w0 w54 := B54.down hww0.size hw6
        have h2 := hww0.trans h1
        exact h2.trans (b56.mono h2.size)
      refine (C20 X1.rd (hb.below D56) (by omega)).mono ?_
      rintro _ w58 ⟨_, rfl, rfl, b58⟩
      refine ⟨true, rfl, ?_⟩
      have D58 := D56.trans (b58.mono D56.size)
      refine (C20 (Y1.below b58).rd (hs.below D58) (by omega)).mono ?_
      rintro _ w60 ⟨_, rfl, rfl, b60⟩
      refine ⟨true, rfl, ?_⟩
      have D60 := D58.trans (b60.mono D58.size)
      have X2 := (X1.below b58).below b60
      have Y2 := (Y1.below b58).below b60
      have hx8 : bys (xs ++ List.replicate 8 201) := bys_append hxs (fun v hv => by rw [List.mem_replicate] at hv; omega)
      have hy8 : bys (ys ++ List.replicate 8 201) := bys_append hys (fun v hv => by rw [List.mem_replicate] at hv; omega)
      refine ⟨fun i wr => ∃ (k : Nat) (zs : List Int), i = (k : Int) ∧ k ≤ x.n ∧ Own B8 5 (w6.heap.size + 1) wr x zs ∧ bys zs ∧ Own B8 5 (w6.heap.size + 1) wr y (ys ++ List.replicate 8 201) ∧ Below w.heap.size w wr, fun i _ => x.n - i.toNat, ⟨0, _, rfl, by omega, X2, hx8, Y2, D60⟩, ?_⟩
      clear X1 Y1 X2 Y2 D56 D58 D60 hB f
      rintro _ wr2 ⟨k, zs, rfl, hk, X, hzb, Y, D⟩
      unfold F3_l4
      have hzl := X.len
      refine ⟨fun hlt2 => ?_, fun hge2 => ?_⟩
      · obtain ⟨a, ha, hab, hc, X', hg⟩ := X.set k (by omega) (IntKind.u8.wrap (zs[k]'(by omega) + 1))
        obtain ⟨a', ha', hcell⟩ := X.rd.at k (by omega)
        rw [ha] at ha'; cases ha'
        refine ⟨by omega, by omega, a, ha, _, hcell, by omega, by omega, a, ha, hc, ?_⟩
        rintro _ rfl
        refine ⟨⟨k + 1, _, ?_, by omega, X', ?_, Y.kept hg (by right; rw [hab]; exact hxy _ hab), D.grown hg D.size (fun k' hk' => by have := (X.blk_ge k' hk').1; omega)⟩, ?_⟩
        · rw [w_i64 (by omega) (by omega)]; omega
        · intro v hv
          rcases List.mem_or_eq_of_mem_set hv with hv | rfl
          · exact hzb v hv
          · rw [wm_u8]; omega
        · show x.n - (IntKind.i64.wrap ((k : Int) + 1)).toNat < x.n - ((k : Int)).toNat
          rw [w_i64 (by omega) (by omega)]; omega
      · refine ⟨fun i wr => ∃ (k : Nat) (us : List Int), i = (k : Int) ∧ k ≤ y.n ∧ Own B8 5 (w6.heap.size + 1) wr x zs ∧ Own B8 5 (w6.heap.size + 1) wr y us ∧ bys us ∧ Below w.heap.size w wr, fun i _ => y.n - i.toNat, ⟨0, _, rfl, by omega, X, Y, hy8, D⟩, ?_⟩
        clear X Y D
        rintro _ wr3 ⟨k, us, rfl, hk, X, Y, hub, D⟩
        unfold F3_l5
        have hul := Y.len
        refine ⟨fun hlt3 => ?_, fun hge3 => ?_⟩
        · obtain ⟨a, ha, hab, hc, Y', hg⟩ := Y.set k (by omega) (IntKind.u8.wrap (us[k]'(by omega) + 3))
          obtain ⟨a', ha', hcell⟩ := Y.rd.at k (by omega)
          rw [ha] at ha'; cases ha'
          refine ⟨by omega, by omega, a, ha, _, hcell, by omega, by omega, a, ha, hc, ?_⟩
          rintro _ rfl
          refine ⟨⟨k + 1, _, ?_, by omega, X.kept hg ?_, Y', ?_, D.grown hg D.size (fun k' hk' => by have := (Y.blk_ge k' hk').1; omega)⟩, ?_⟩
          · rw [w_i64 (by omega) (by omega)]; omega
          · cases hxk : x.blk with
            | none => exact .inl rfl
            | some kx => right; intro e; exact hxy kx hxk e.symm
          · intro v hv
            rcases List.mem_or_eq_of_mem_set hv with hv | rfl
            · exact hub v hv
            · rw [wm_u8]; omega
          · show y.n - (IntKind.i64.wrap ((k : Int) + 1)).toNat < y.n - ((k : Int)).toNat
            rw [w_i64 (by omega) (by omega)]; omega
        · rintro _ rfl
          have X' : Own B8 5 (w6.heap.size + 1) wr3.drew x zs := X.below ((Below.refl _ _).drew)
          have Y' : Own B8 5 (w6.heap.size + 1) wr3.drew y us := Y.below ((Below.refl _ _).drew)
          have D' : Below w.heap.size w wr3.drew := D.drew
          obtain ⟨xd, hxd, hxdr⟩ := rd_hi X'.rd (b.n : Int) xs.length (by omega) (by omega)
          obtain ⟨yd, hyd, hydr⟩ := rd_hi Y'.rd (s.n : Int) ys.length (by omega) (by omega)
          refine ⟨xd, hxd _, yd, hyd _, ?_⟩
          refine C19 hxdr hydr (by simp; omega) ?_
          intro z w77 oz b77
          rintro _ rfl
          have b78 : Below wr3.drew.heap.size wr3.drew w77.drew := b77.drew
          have oz' : Own B8 5 wr3.drew.heap.size w77.drew z _ := oz.below ((Below.refl _ _).drew)
          refine ⟨fun _ => ⟨fun _ => ⟨fun _ => ⟨fun _ => ?_, fun h => (nomatch h)⟩, fun h => (nomatch h)⟩, fun h => (nomatch h)⟩, fun h => (nomatch h)⟩
          refine ⟨_, rd_str oz'.rd, xd, hxd _, yd, hyd _, ?_⟩
          refine C16 (hxdr.below b78) (hydr.below b78) (by simp; omega) ?_
          intro z2 w83 oz2 b83
          refine ⟨rd_str (oz'.rd.below b83), _, rd_str oz2.rd, ?_⟩
          unfold F3_j6
          have D83 := D'.trans ((b78.trans (b83.mono b78.size)).mono D'.size)
          exact ⟨by simp, D83⟩

/-- the array of three strings, written whole -/
theorem three (w : World) (c : Nat) (a b d : ByteArray) (hc : ∃ cs : Array Value, ∃ e, w.heap[c]? = some (.cells cs e (0, 0)) ∧ cs.size = 3) :
    HasCells w (⟨c, 0, none⟩ : Addr) 0 3 ∧ (∀ w1, w1 = setCells w (⟨c, 0, none⟩ : Addr) 0 [.string a, .string b, .string d] → w.grownBy w1 (some c) ∧
      w1.cell? ((⟨c, 0, none⟩ : Addr).add 0) = some (.string a) ∧ w1.cell? ((⟨c, 0, none⟩ : Addr).add 1) = some (.string b) ∧ w1.cell? ((⟨c, 0, none⟩ : Addr).add 2) = some (.string d)) := by
  obtain ⟨cs, e, hh, hs⟩ := hc
  have hcell : ∀ i, i < 3 → HasCell w ((⟨c, 0, none⟩ : Addr).add i) := by
    intro i hi
    rw [add_lit]
    refine ⟨⟨cs[i]'(by omega), ?_⟩, ?_⟩
    · rw [cell_of_row w c i cs e (0, 0) hh]; simp
    · unfold World.frozen?; rw [hh]; simp
  refine ⟨⟨hcell 0 (by omega), hcell 1 (by omega), hcell 2 (by omega), trivial⟩, ?_⟩
  rintro _ rfl
  simp only [setCells]
  have e0 := (hcell 0 (by omega)).1
  have e1 := (hcell 1 (by omega)).1
  have e2 := (hcell 2 (by omega)).1
  rw [add_lit] at e0 e1 e2
  simp only [add_lit]
  obtain ⟨v0, e0⟩ := e0
  obtain ⟨v1, e1⟩ := e1
  obtain ⟨v2, e2⟩ := e2
  have n01 : (⟨c, 0, none⟩ : Addr) ≠ ⟨c, 1, none⟩ := by simp
  have n02 : (⟨c, 0, none⟩ : Addr) ≠ ⟨c, 2, none⟩ := by simp
  have n12 : (⟨c, 1, none⟩ : Addr) ≠ ⟨c, 2, none⟩ := by simp
  refine ⟨(World.grownBy.trans (World.grownBy.trans (grown_set w ⟨c, 0, none⟩ _) (grown_set _ ⟨c, 1, none⟩ _)) (grown_set _ ⟨c, 2, none⟩ _)), ?_, ?_, ?_⟩
  · rw [World.cell?_setCell_other _ _ _ _ n02.symm, World.cell?_setCell_other _ _ _ _ n01.symm]
    exact World.cell?_setCell_same _ _ _ e0
  · rw [World.cell?_setCell_other _ _ _ _ n12.symm]
    exact World.cell?_setCell_same _ _ _ (by rw [World.cell?_setCell_other _ _ _ _ n01]; exact e1)
  · exact World.cell?_setCell_same _ _ _ (by rw [World.cell?_setCell_other _ _ _ _ n12, World.cell?_setCell_other _ _ _ _ n02]; exact e2)
theorem three_new (w : World) {w1 : World} (h : Below (w.alloc (.cells #[.string ByteArray.empty, .string ByteArray.empty, .string ByteArray.empty] 33)).heap.size (w.alloc (.cells #[.string ByteArray.empty, .string ByteArray.empty, .string ByteArray.empty] 33)) w1) :
    ∃ cs : Array Value, ∃ e, w1.heap[w.heap.size]? = some (.cells cs e (0, 0)) ∧ cs.size = 3 := by
  refine ⟨#[.string ByteArray.empty, .string ByteArray.empty, .string ByteArray.empty], 33, ?_, rfl⟩
  rw [h.block _ (by simp)]; exact heap_alloc_new w _

/-- a new owner -/
theorem Fo.fresh (w : World) : Fo w.heap.size ⟨w.heap.size, 0, none⟩ ⟨none, 0, 0⟩ [] 0 0 (fun _ => 0) (w.alloc (.cells #[.slice none 0 0, .slice none 0 0] 28)) ⟨none, 0, 0⟩ ⟨none, 0, 0⟩ [] [] (fun _ => []) [] := by
  have hc : ∀ j (hj : j < 2), (w.alloc (.cells #[.slice none 0 0, .slice none 0 0] 28)).cell? ((⟨w.heap.size, 0, none⟩ : Addr).add j) = some (.slice none 0 0) := by
    intro j hj
    rw [row_cell w #[.slice none 0 0, .slice none 0 0] 28 j (by simpa using hj) (Below.refl _ _)]
    match j, hj with
    | 0, _ => rfl
    | 1, _ => rfl
  exact { co := hc 0 (by omega), cm := hc 1 (by omega), fo := by simp, fm := by rw [add_lit]; simp, ob := rfl, ol := Own.nil, om := Own.nil, oa := Own.nil, oi := fun i hi => by simp at hi, tl := fun a ha => (nomatch ha), tm := fun a ha => (nomatch ha), ta := fun a ha => (nomatch ha), ti := fun i hi => by simp at hi, rd := fun s m hm => (nomatch hm) }

theorem F3_spec {n m : Int} {b s : Sl} {xs ys : List Int} {w : World} (hn0 : 0 ≤ n) (hn1 : n < 18446744073709551616) (hm1 : -9223372036854775808 ≤ m) (hm2 : m ≤ 9223372036854775807)
    (hb : Rd B8 w b xs) (hxs : bys xs) (hs : Rd B8 w s ys) (hys : bys ys) : F3 b n m s (fun r w1 => r = true ∧ Below w.heap.size w w1) w := by
  unfold F3
  refine (C12 w).mono ?_
  rintro _ w6 ⟨_, rfl, rfl, b6⟩
  have hbn := hb.len
  have hsn := hs.len
  refine ⟨true, rfl, fun h => (nomatch h), fun _ => ⟨fun _ => ⟨rfl, b6⟩, fun hbm => ⟨fun _ => ⟨rfl, b6⟩, fun hsm => ?_⟩⟩⟩
  rintro _ rfl
  have a7 : Below w6.heap.size w6 (w6.alloc (.cells #[.slice none 0 0, .slice none 0 0] 28)) := (Below.refl _ _).alloc (Nat.le_refl _) _
  have sz7 : (w6.alloc (.cells #[.slice none 0 0, .slice none 0 0] 28)).heap.size = w6.heap.size + 1 := by simp
  have b7 := b6.trans (a7.mono b6.size)
  have F7 := Fo.fresh w6
  have o7 := F7.co
  have o7' := F7.cm
  have f7 := F7.fo
  have f7' := F7.fm
  clear F7 a7
  generalize (w6.alloc (.cells #[.slice none 0 0, .slice none 0 0] 28)) = w7 at *
  refine (C13 (hb.below b7) (by omega)).mono ?_
  rintro _ w9 ⟨x, rfl, ox, b9⟩
  refine ⟨x, rfl, ?_⟩
  have b79 := b7.trans (b9.mono b7.size)
  refine (C13 (hs.below b79) (by omega)).mono ?_
  rintro _ w11 ⟨y, rfl, oy, b11⟩
  refine ⟨y, rfl, ?_⟩
  rintro _ rfl
  have b12 : Below w9.heap.size w9 w11.drew := b11.drew
  have b712 : Below w7.heap.size w7 w11.drew := b9.trans (b12.mono b9.size)
  have ox' : Own B8 5 (w6.heap.size + 1) w11.drew x (xs ++ List.replicate 8 201) := by rw [← sz7]; exact ox.below b12
  have oy' : Own B8 5 (w6.heap.size + 1) w11.drew y (ys ++ List.replicate 8 201) := (Own.below oy ((Below.refl _ _).drew)).lower (by rw [← sz7]; exact b9.size)
  have hxy : ∀ k, x.blk = some k → y.blk ≠ some k := by
    intro k h1 h2
    have := (ox.blk_ge k h1).2
    have := (oy.blk_ge k h2).1
    omega
  have hw12 : Below w.heap.size w w11.drew := b7.trans (b712.mono b7.size)
  have hob : w6.heap.size < w7.heap.size := by omega
  have fin : ∀ (w0 : World) (want : Addr), Below w11.drew.heap.size w11.drew w0 → w11.drew.heap.size ≤ want.block → want.block < w0.heap.size → w0.cell? (want.add 0) = some (.string (strOfNums (xs ++ uv n.toNat))) → w0.cell? (want.add 1) = some (.string (strOfNums (xs ++ uv (zig m).toNat))) → w0.cell? (want.add 2) = some (.string (strOfNums (xs ++ uv ys.length ++ ys))) →
      F3_j1 b n m s (fun r w1 => r = true ∧ Below w.heap.size w w1) true w6 x y want w0 := by
    intro w0 want h1 h2 h3 h4 h5 h6
    refine F3_j1_spec hn0 hn1 hm1 hm2 hb hxs hs hys (by omega) (by omega) ?_ ?_ ?_ ?_ ox' oy' hxy b6.size hw12 h1 ⟨h2, h3⟩ ?_
    · rw [b712.cell hob]; exact o7
    · rw [b712.cell (by rw [add_block]; exact hob)]; exact o7'
    · rw [b712.frozen hob]; exact f7
    · rw [b712.frozen (by rw [add_block]; exact hob)]; exact f7'
    · intro j hj
      match j, hj with
      | 0, _ => exact h4
      | 1, _ => exact h5
      | 2, _ => exact h6
  clear ox oy ox' oy' hxy b9 b12 b712 b79 b11 o7 o7' f7 f7' hob
  generalize w11.drew = w12 at *
  have hLn : n.toNat < 18446744073709551616 := by omega
  have hb2 := hb.below hw12
  have hs2 := hs.below hw12
  refine ⟨?_, ?_⟩
  · refine C14 (n := n.toNat) (by omega) hb2 (by omega) hLn ?_
    intro s0 w14 p0 c14
    refine ⟨_, rd_str p0.rd, ?_, ?_⟩
    · refine C15 (hb2.below c14) (by omega) hm1 hm2 ?_
      intro s1 w17 p1 c17
      have d17 := c14.trans (c17.mono c14.size)
      refine ⟨rd_str (p0.rd.below c17), _, rd_str p1.rd, ?_, ?_⟩
      · refine C16 (hb2.below d17) (hs2.below d17) (by omega) ?_
        intro s2 w20 p2 c20
        have d20 := d17.trans (c20.mono d17.size)
        refine ⟨rd_str (p1.rd.below c20), rd_str ((p0.below c17).rd.below c20), _, rd_str p2.rd, ?_⟩
        rintro _ rfl
        have al : Below w20.heap.size w20 (w20.alloc (.cells #[.string ByteArray.empty, .string ByteArray.empty, .string ByteArray.empty] 33)) := (Below.refl _ _).alloc (Nat.le_refl _) _
        refine ⟨rd_str (p2.rd.below al), rd_str ((p1.below c20).rd.below al), rd_str (((p0.below c17).below c20).rd.below al), ?_⟩
        obtain ⟨g1, g2⟩ := three _ w20.heap.size (strOfNums (xs ++ uv n.toNat)) (strOfNums (xs ++ uv (zig m).toNat)) (strOfNums (xs ++ uv ys.length ++ ys)) (three_new w20 (Below.refl _ _))
        refine ⟨g1, ?_⟩
        intro w23 hw23
        obtain ⟨g3, g4, g5, g6⟩ := g2 w23 hw23
        have d22 := d20.trans (al.mono d20.size)
        refine fin w23 _ (d22.grown g3 d22.size (fun k hk => by cases hk; exact d20.size)) d20.size (by have := g3.size; simp at this; simp; omega) g4 g5 g6
      · rintro _ rfl
        have al : Below w17.heap.size w17 (w17.alloc (.cells #[.string ByteArray.empty, .string ByteArray.empty, .string ByteArray.empty] 33)) := (Below.refl _ _).alloc (Nat.le_refl _) _
        refine ⟨rd_str (p1.rd.below al), rd_str ((p0.below c17).rd.below al), ?_⟩
        have p0' := (p0.below c17).rd.below al
        have p1' := p1.rd.below al
        have dal := d17.trans (al.mono d17.size)
        refine C16 (hb2.below dal) (hs2.below dal) (by omega) ?_
        intro s2 w89 p2 c89
        refine ⟨rd_str (p1'.below c89), rd_str (p0'.below c89), _, rd_str p2.rd, ?_⟩
        obtain ⟨g1, g2⟩ := three _ w17.heap.size (strOfNums (xs ++ uv n.toNat)) (strOfNums (xs ++ uv (zig m).toNat)) (strOfNums (xs ++ uv ys.length ++ ys)) (three_new w17 c89)
        refine ⟨g1, ?_⟩
        intro w91 hw91
        obtain ⟨g3, g4, g5, g6⟩ := g2 w91 hw91
        have d89 := dal.trans (c89.mono dal.size)
        refine fin w91 _ (d89.grown g3 d89.size (fun k hk => by cases hk; exact d17.size)) d17.size (by have := g3.size; have := c89.size; simp at this; simp; omega) g4 g5 g6
    · rintro _ rfl
      have al : Below w14.heap.size w14 (w14.alloc (.cells #[.string ByteArray.empty, .string ByteArray.empty, .string ByteArray.empty] 33)) := (Below.refl _ _).alloc (Nat.le_refl _) _
      have p0' := p0.rd.below al
      have dal := c14.trans (al.mono c14.size)
      refine ⟨rd_str p0', ?_⟩
      refine C15 (hb2.below dal) (by omega) hm1 hm2 ?_
      intro s1 w94 p1 c94
      have d94 := dal.trans (c94.mono dal.size)
      refine ⟨rd_str (p0'.below c94), _, rd_str p1.rd, ?_⟩
      refine C16 (hb2.below d94) (hs2.below d94) (by omega) ?_
      intro s2 w97 p2 c97
      have d97 := d94.trans (c97.mono d94.size)
      have e97 := c94.trans (c97.mono c94.size)
      refine ⟨rd_str (p1.rd.below c97), rd_str (p0'.below e97), _, rd_str p2.rd, ?_⟩
      obtain ⟨g1, g2⟩ := three _ w14.heap.size (strOfNums (xs ++ uv n.toNat)) (strOfNums (xs ++ uv (zig m).toNat)) (strOfNums (xs ++ uv ys.length ++ ys)) (three_new w14 e97)
      refine ⟨g1, ?_⟩
      intro w99 hw99
      obtain ⟨g3, g4, g5, g6⟩ := g2 w99 hw99
      refine fin w99 _ (d97.grown g3 d97.size (fun k hk => by cases hk; exact c14.size)) c14.size (by have := g3.size; have := e97.size; simp at this; simp; omega) g4 g5 g6
  · rintro _ rfl
    have al : Below w12.heap.size w12 (w12.alloc (.cells #[.string ByteArray.empty, .string ByteArray.empty, .string ByteArray.empty] 33)) := (Below.refl _ _).alloc (Nat.le_refl _) _
    refine C14 (n := n.toNat) (by omega) (hb2.below al) (by omega) hLn ?_
    intro s0 w102 p0 c102
    have d102 := al.trans (c102.mono al.size)
    refine ⟨_, rd_str p0.rd, ?_⟩
    refine C15 (hb2.below d102) (by omega) hm1 hm2 ?_
    intro s1 w105 p1 c105
    have d105 := d102.trans (c105.mono d102.size)
    refine ⟨rd_str (p0.rd.below c105), _, rd_str p1.rd, ?_⟩
    refine C16 (hb2.below d105) (hs2.below d105) (by omega) ?_
    intro s2 w108 p2 c108
    have d108 := d105.trans (c108.mono d105.size)
    have e108 := c102.trans ((c105.trans (c108.mono c105.size)).mono c102.size)
    refine ⟨rd_str (p1.rd.below c108), rd_str ((p0.below c105).rd.below c108), _, rd_str p2.rd, ?_⟩
    obtain ⟨g1, g2⟩ := three _ w12.heap.size (strOfNums (xs ++ uv n.toNat)) (strOfNums (xs ++ uv (zig m).toNat)) (strOfNums (xs ++ uv ys.length ++ ys)) (three_new w12 e108)
    refine ⟨g1, ?_⟩
    intro w110 hw110
    obtain ⟨g3, g4, g5, g6⟩ := g2 w110 hw110
    refine fin w110 _ (d108.grown g3 d108.size (fun k hk => by cases hk; exact Nat.le_refl _)) (Nat.le_refl _) (by have := g3.size; have := e108.size; simp at this; simp; omega) g4 g5 g6
end Go.Proofs.Ythhcaaellhdkiaa
