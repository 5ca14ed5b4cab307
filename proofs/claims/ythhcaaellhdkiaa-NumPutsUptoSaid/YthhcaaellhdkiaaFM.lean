/- What an owner's fill and looks do. -/
import Derived.Test.YthhcaaellhdkiaaFL
namespace Go.Proofs.Ythhcaaellhdkiaa
open Go Go.RowKit Go.Proofs.Ythhcaaellhdkiaa.SX
set_option linter.unusedVariables false

def marks (p : Nat) : List Int := (List.range p).map (fun i => ((i + 1 : Nat) : Int))
theorem marks_succ (p : Nat) : marks (p + 1) = marks p ++ [((p + 1 : Nat) : Int)] := by simp [marks, List.range_succ]
theorem marks_len (p : Nat) : (marks p).length = p := by simp [marks]
theorem marks_at (p i : Nat) (h : i < p) : (marks p)[i]? = some ((i + 1 : Nat) : Int) := by simp [marks, h]
theorem grown_drew (w : World) : w.grownBy w.drew none := ⟨rfl, rfl, rfl, Nat.le_refl _, fun _ _ _ => rfl⟩
theorem all_rep {ys : List Int} {m : Int} (h : ∀ j, j < ys.length → ys[j]? = some m) : ys = List.replicate ys.length m := by
  apply List.ext_getElem?
  intro j
  by_cases hj : j < ys.length
  · rw [h j hj, List.getElem?_replicate, if_pos hj]
  · rw [List.getElem?_eq_none (by omega), List.getElem?_eq_none (by simp; omega)]

/-- what looks asks of the owner -/
def Full (B : Nat) (o : Addr) (w : World) : Prop := ∃ (lr mr : Sl) (lss : List Sl) (ms : List Int), w.cell? o = some lr.v ∧ w.cell? (o.add 1) = some mr.v ∧ Own Sl.v 22 B w lr lss ∧ Own B8 5 B w mr ms ∧ lss.length = ms.length ∧ lss.length ≤ 1000000 ∧
  ∀ (i : Nat) (s : Sl) (m : Int), lss[i]? = some s → ms[i]? = some m → Rd B8 w s (List.replicate s.n m)

theorem C21 {o : Addr} {l : Sl} {ls : List Sl} {zs : Nat → List Int} {tag : Nat → Nat} {w wb : World} {B : Nat} (hB0 : B ≤ wb.heap.size) (hB : Below B wb w) (h : Fl B o l ls 0 0 tag w ⟨none, 0, 0⟩ ⟨none, 0, 0⟩ [] [] zs [])
    (hls : ls.length ≤ 100) (hsz : ∀ i, i < ls.length → (zs i).length + 100 ≤ 140737488355328) :
    Calls Try.prog 21 #[.pointer (some o), .slice l.a l.n l.c] w (fun e w1 => e = .returned (.tuple #[] : Value) ∧ (Below B wb w1 ∧ Full B o w1)) := by
  refine F21_sound (some o) l (fun w1 => Below B wb w1 ∧ Full B o w1) w ?_
  unfold F21
  refine ⟨o, rfl, ⟨none, 0, 0⟩, h.co, ?_⟩
  have hln := h.oa.len
  refine ⟨fun i wr => ∃ (p : Nat) (tag : Nat → Nat) (lr mr : Sl) (cont : Nat → List Int), i = (p : Int) ∧ p ≤ ls.length ∧ Fl B o l ls 0 0 tag wr lr mr (ls.take p) (marks p) cont [] ∧ Below B wb wr ∧ (∀ i, i < ls.length → (cont i).length = (zs i).length) ∧
    ∀ i, i < p → ∀ j, j < (cont i).length → (cont i)[j]? = some ((i + 1 : Nat) : Int), fun i _ => ls.length - i.toNat, ⟨0, tag, _, _, zs, rfl, by omega, h, hB, fun _ _ => rfl, fun i hi => by omega⟩, ?_⟩
  rintro _ wr ⟨p, tg, lr, mr, cont, rfl, hp, f, b, hlen, hfull⟩
  unfold F21_l1
  have hlr := f.ol.len
  have hlr' : lr.n = p := by rw [← hlr]; simp; omega
  refine ⟨fun hlt => ?_, fun hge => ?_⟩
  · refine ⟨o, rfl, lr, f.co, ?_⟩
    have hm : IntKind.u8.wrap (IntKind.i64.wrap ((lr.n : Int) + 1)) = ((p + 1 : Nat) : Int) := by
      rw [w_i64 (by omega) (by omega), w_u8 (by omega) (by omega)]; omega
    have hpl : p < ls.length := by omega
    refine ⟨fun k wr => ∃ (k' : Nat) (cont : Nat → List Int), k = (k' : Int) ∧ k' ≤ ls[p].n ∧ Fl B o l ls 0 0 tg wr lr mr (ls.take p) (marks p) cont [] ∧ Below B wb wr ∧ (∀ i, i < ls.length → (cont i).length = (zs i).length) ∧
      (∀ i, i < p → ∀ j, j < (cont i).length → (cont i)[j]? = some ((i + 1 : Nat) : Int)) ∧ (∀ j, j < k' → (cont p)[j]? = some ((p + 1 : Nat) : Int)), fun k _ => ls[p].n - k.toNat, ⟨0, cont, rfl, by omega, f, b, hlen, hfull, fun j hj => by omega⟩, ?_⟩
    clear f b hlen hfull cont hlr
    rintro _ wr ⟨k, cont, rfl, hk, f, b, hlen, hfull, hpart⟩
    unfold F21_l2
    obtain ⟨al, hal, hcl⟩ := f.oa.rd.at p hpl
    have hnp := (f.oi p hpl (by omega)).len
    have hzp := hsz p hpl
    have hlp := hlen p hpl
    refine ⟨by omega, by omega, al, hal, ls[p], by simpa using hcl, fun hk1 => ?_, fun hk1 => ?_⟩
    · refine ⟨by omega, by omega, al, hal, ls[p], by simpa using hcl, by omega, by omega, ?_⟩
      obtain ⟨a, ha, hc, f2, hg⟩ := f.item p hpl (by omega) (by omega) k (by omega) ((p + 1 : Nat) : Int)
      refine ⟨a, ha, by simpa using hc, ?_⟩
      rintro _ rfl
      rw [hm, w_i64 (by omega) (by omega)]
      refine ⟨⟨k + 1, _, by omega, by omega, by simpa using f2, ?_, ?_, ?_, ?_⟩, by show ls[p].n - ((k : Int) + 1).toNat < ls[p].n - ((k : Int)).toNat; omega⟩
      · exact b.grown hg (Nat.le_trans hB0 b.size) (fun k' hk' => ((f.oi p hpl (by omega)).blk_ge k' hk').1)
      · intro i hi
        by_cases hip : i = p
        · subst hip; simp [hlen i hi]
        · simp [hip, hlen i hi]
      · intro i hi
        simp only [if_neg (show i ≠ p by omega)]
        exact hfull i hi
      · intro j hj
        simp only [↓reduceIte]
        rw [List.getElem?_set]
        by_cases hjk : k = j
        · rw [if_pos hjk, if_pos (by omega)]; exact congrArg some (by omega)
        · rw [if_neg hjk]; exact hpart j (by omega)
    · rintro _ rfl
      have f1 := f.keep (grown_drew wr)
      have b1 : Below B wb wr.drew := b.drew
      refine ⟨o, rfl, lr, f1.co, by omega, by omega, al, hal, ls[p], by simpa using hcl, ?_⟩
      rintro _ rfl
      obtain ⟨lr2, w2, tg2, hrun, hc2, htg, f2, hg2⟩ := f1.pushL (Nat.le_trans hB0 b1.size) ls[p] (by simp; omega)
      refine ⟨lr2, w2, hrun, o, rfl, hc2, ?_⟩
      have b2 : Below B wb w2 := b1.grown hg2 (Nat.le_trans hB0 b1.size) (fun k' hk' => (f1.ol.blk_ge k' hk').1)
      rintro _ rfl
      have b3 : Below B wb (w2.setCell o lr2.v) := b2.setCell f.ob.1 _
      refine ⟨o, rfl, mr, f2.cm, ?_⟩
      rintro _ rfl
      rw [hm]
      obtain ⟨mr2, w4, tg4, hrun4, hc4, htg4, f4, hg4⟩ := f2.pushM (Nat.le_trans hB0 b3.size) ((p + 1 : Nat) : Int) (by rw [marks_len]; omega)
      refine ⟨mr2, w4, hrun4, o, rfl, hc4, ?_⟩
      have b4 : Below B wb w4 := b3.grown hg4 (Nat.le_trans hB0 b3.size) (fun k' hk' => (f2.om.blk_ge k' hk').1)
      rintro _ rfl
      have b5 : Below B wb (w4.setCell (o.add 1) mr2.v) := b4.setCell (by rw [add_block]; exact f.ob.1) _
      rw [w_i64 (by omega) (by omega)]
      refine ⟨⟨p + 1, tg4, lr2, mr2, cont, by omega, by omega, ?_, b5, hlen, ?_⟩, by show ls.length - ((p : Int) + 1).toNat < ls.length - ((p : Int)).toNat; omega⟩
      · rw [marks_succ, List.take_add_one, List.getElem?_eq_getElem hpl]
        exact f4
      · intro i hi j hj
        by_cases hip : i < p
        · exact hfull i hip j hj
        · have : i = p := by omega
          subst this
          exact hpart j (by omega)
  · have hpN : p = ls.length := by omega
    subst hpN
    refine ⟨o, rfl, lr, f.co, ?_⟩
    rw [List.take_length] at f
    have hcont : ∀ i, i < ls.length → ∀ h : i < ls.length, cont i = List.replicate ls[i].n ((i + 1 : Nat) : Int) := by
      intro i hi h
      have := all_rep (hfull i hi)
      rw [(f.oi i h (by omega)).len] at this
      exact this
    refine ⟨fun i wr => ∃ (q : Nat) (tag : Nat → Nat) (lr mr : Sl) (lss : List Sl) (ms : List Int) (rs : List (Sl × Int)), i = (q : Int) ∧ q ≤ ls.length ∧ Fl B o l ls q q tag wr lr mr lss ms cont rs ∧ Below B wb wr ∧ lss.length = ls.length + q ∧ ms.length = ls.length + q ∧
      (∀ i, i < ls.length → lss[i]? = ls[i]?) ∧ (∀ i, i < ls.length → ms[i]? = some ((i + 1 : Nat) : Int)) ∧ (∀ (i : Nat) (s : Sl) (m : Int), (i < q ∨ ls.length ≤ i) → lss[i]? = some s → ms[i]? = some m → (s, m) ∈ rs), fun i _ => ls.length - i.toNat,
      ⟨0, tg, lr, mr, ls, marks ls.length, [], rfl, by omega, f, b, by omega, by rw [marks_len]; omega, fun _ _ => rfl, fun i hi => marks_at _ _ hi, fun i s m h1 h2 h3 => ?_⟩, ?_⟩
    · have := (List.getElem?_eq_some_iff.1 h2).1
      omega
    clear f b hlen hfull hlr
    rintro _ wr ⟨q, tg, lr2, mr, lss, ms, rs, rfl, hq, f, b, hl1, hl2, hls1, hms1, hmem⟩
    unfold F21_l3
    have hlr2 := f.ol.len
    have hmr2 := f.om.len
    refine ⟨fun hlt => ?_, fun hge => ?_⟩
    · have hqN : q < ls.length := by omega
      obtain ⟨al, hal, hcl⟩ := f.ol.rd.at q (by omega)
      have eq1 : lss[q]'(by omega) = ls[q] := by
        have := hls1 q hqN
        rw [List.getElem?_eq_getElem (by omega), List.getElem?_eq_getElem hqN] at this
        exact Option.some.inj this
      have eq2 : ms[q]'(by omega) = ((q + 1 : Nat) : Int) := by
        have := hms1 q hqN
        rw [List.getElem?_eq_getElem (by omega)] at this
        exact Option.some.inj this
      rw [eq1] at hcl
      refine ⟨o, rfl, lr2, f.co, by omega, by omega, al, hal, ls[q], by simpa using hcl, ?_⟩
      obtain ⟨f0, g0, t0, e0⟩ := f.start hqN
      have hsq := hsz q hqN
      have hnq : ls[q].n + 100 ≤ 140737488355328 := by
        have h1 := (f.oi q hqN (Nat.le_refl _)).len
        rw [hcont q hqN hqN] at h1 g0
        have h2 := (h.oi q hqN (by omega)).len
        omega
      rw [hcont q hqN hqN] at g0 e0
      refine ⟨fun s wr => ∃ (k : Nat) (tag : Nat → Nat), s.2 = (k : Int) ∧ k ≤ 70 ∧ Fl B o l ls (q + 1) q tag wr lr2 mr lss ms cont rs ∧ Own B8 5 B wr s.1 (List.replicate (ls[q].n + k) ((q + 1 : Nat) : Int)) ∧ (∀ a, s.1.a = some a → tag a.block = 4 + q) ∧
        Eld wr tag q ls[q] (List.replicate ls[q].n ((q + 1 : Nat) : Int)) s.1 (List.replicate (ls[q].n + k) ((q + 1 : Nat) : Int)) ∧ Below B wb wr, fun s _ => 70 - s.2.toNat, ⟨0, tg, rfl, by omega, f0, g0, t0, e0, b⟩, ?_⟩
      clear f0 g0 t0 e0 f b
      rintro ⟨g, _⟩ wr2 ⟨k, tg, rfl, hk, f, og, tgg, el, b⟩
      dsimp only at og tgg el
      unfold F21_l4
      obtain ⟨am, ham, hcm⟩ := f.om.rd.at q (by omega)
      rw [eq2] at hcm
      refine ⟨fun h70 => ?_, fun h70 => ?_⟩
      · refine ⟨o, rfl, mr, f.cm, by omega, by omega, am, ham, _, by simpa using hcm, ?_⟩
        rintro _ rfl
        obtain ⟨g2, w2, tg2, hrun, f2, og2, tgg2, el2, hg2⟩ := f.grow (Nat.le_trans hB0 b.size) og tgg el ((q + 1 : Nat) : Int) (by simp; omega)
        rw [← List.replicate_succ'] at og2 el2
        refine ⟨g2, w2, hrun, ⟨k + 1, tg2, ?_, by omega, f2, og2, tgg2, el2, b.grown hg2 (Nat.le_trans hB0 b.size) (fun k' hk' => (og.blk_ge k' hk').1)⟩, ?_⟩
        · show IntKind.i64.wrap ((k : Int) + 1) = _
          rw [w_i64 (by omega) (by omega)]; omega
        · show 70 - (IntKind.i64.wrap ((k : Int) + 1)).toNat < 70 - ((k : Int)).toNat
          rw [w_i64 (by omega) (by omega)]; omega
      · have hgn := og.len
        simp only [List.length_replicate] at hgn
        rw [hgn] at og
        have f2 := f.done (m := ((q + 1 : Nat) : Int)) og tgg el
        refine ⟨o, rfl, lr2, f2.co, ?_⟩
        rintro _ rfl
        obtain ⟨lr3, w3, tg3, hrun3, hc3, htg3, f3, hg3⟩ := f2.pushL (Nat.le_trans hB0 b.size) g (by omega)
        refine ⟨lr3, w3, hrun3, o, rfl, hc3, ?_⟩
        have b3 : Below B wb w3 := b.grown hg3 (Nat.le_trans hB0 b.size) (fun k' hk' => (f2.ol.blk_ge k' hk').1)
        rintro _ rfl
        have b4 : Below B wb (w3.setCell o lr3.v) := b3.setCell f2.ob.1 _
        rintro _ rfl
        have f5 := f3.keep (grown_drew _)
        have b5 : Below B wb (w3.setCell o lr3.v).drew := b4.drew
        obtain ⟨am2, ham2, hcm2⟩ := f5.om.rd.at q (by omega)
        rw [eq2] at hcm2
        refine ⟨o, rfl, mr, f5.cm, o, rfl, mr, f5.cm, by omega, by omega, am2, ham2, _, by simpa using hcm2, ?_⟩
        rintro _ rfl
        obtain ⟨mr6, w6, tg6, hrun6, hc6, htg6, f6, hg6⟩ := f5.pushM (Nat.le_trans hB0 b5.size) ((q + 1 : Nat) : Int) (by omega)
        refine ⟨mr6, w6, hrun6, o, rfl, hc6, ?_⟩
        have b6 : Below B wb w6 := b5.grown hg6 (Nat.le_trans hB0 b5.size) (fun k' hk' => (f5.om.blk_ge k' hk').1)
        rintro _ rfl
        have b7 : Below B wb (w6.setCell (o.add 1) mr6.v) := b6.setCell (by rw [add_block]; exact f2.ob.1) _
        rw [w_i64 (by omega) (by omega)]
        refine ⟨⟨q + 1, tg6, lr3, mr6, _, _, _, by omega, by omega, f6, b7, by simp; omega, by simp; omega, ?_, ?_, ?_⟩, by show ls.length - ((q : Int) + 1).toNat < ls.length - ((q : Int)).toNat; omega⟩
        · intro i hi
          rw [List.getElem?_append_left (by omega)]; exact hls1 i hi
        · intro i hi
          rw [List.getElem?_append_left (by omega)]; exact hms1 i hi
        · intro i s m hi h1 h2
          simp only [List.mem_append, List.mem_cons, Prod.mk.injEq, List.not_mem_nil, or_false]
          by_cases hlast : i < ls.length + q
          · rw [List.getElem?_append_left (by omega)] at h1 h2
            by_cases hiq : i = q
            · subst hiq
              right; left
              rw [List.getElem?_eq_getElem (by omega), eq1] at h1
              rw [List.getElem?_eq_getElem (by omega), eq2] at h2
              exact ⟨(Option.some.inj h1).symm, (Option.some.inj h2).symm⟩
            · left; exact hmem i s m (by omega) h1 h2
          · right; right
            have h3 := (List.getElem?_eq_some_iff.1 h1).1
            simp at h3
            have : i = ls.length + q := by omega
            subst this
            rw [← hl1, List.getElem?_concat_length] at h1
            rw [← hl2, List.getElem?_concat_length] at h2
            exact ⟨(Option.some.inj h1).symm, (Option.some.inj h2).symm⟩
    · have hqN : q = ls.length := by omega
      subst hqN
      refine ⟨b, lr2, mr, lss, ms, f.co, f.cm, f.ol, f.om, by omega, by omega, fun i s m h1 h2 => ?_⟩
      exact (f.rd s m (hmem i s m (by omega) h1 h2)).1

theorem C22 {o : Addr} {w : World} {B : Nat} (h : Full B o w) : Calls Try.prog 22 #[.pointer (some o)] w (fun e w1 => ∃ (r0 : Bool), e = .returned (.bool r0 : Value) ∧ (r0 = true ∧ Below w.heap.size w w1)) := by
  obtain ⟨lr, mr, lss, ms, hco, hcm, ol, om, hlm, hbig, hrd⟩ := h
  refine F22_sound (some o) (fun r0 w1 => r0 = true ∧ Below w.heap.size w w1) w ?_
  unfold F22
  have hol := World.block_lt_of_cell? w _ hco
  have hcl := ol.len
  have hcm' := om.len
  have ho : ∀ wr, Below w.heap.size w wr → wr.cell? o = some lr.v := fun wr hb => by rw [hb.cell hol]; exact hco
  have ho1 : ∀ wr, Below w.heap.size w wr → wr.cell? (o.add 1) = some mr.v := fun wr hb => by rw [hb.cell (by rw [add_block]; exact hol)]; exact hcm
  refine ⟨fun i wr => ∃ p : Nat, i = (p : Int) ∧ p ≤ lss.length ∧ Below w.heap.size w wr, fun i _ => lss.length - i.toNat, ⟨0, rfl, by omega, Below.refl _ _⟩, ?_⟩
  rintro _ wr ⟨p, rfl, hp, b⟩
  unfold F22_l1
  refine ⟨o, rfl, lr, ho wr b, fun hlt => ?_, fun hge => ⟨rfl, b⟩⟩
  have hpl : p < lss.length := by omega
  have hs := hrd p lss[p] (ms[p]'(by omega)) (List.getElem?_eq_getElem hpl) (List.getElem?_eq_getElem (by omega))
  have hsm := hs.2.2.1
  have hsn := hs.2.1
  simp only [maxLen] at hsm
  refine ⟨fun k wr => ∃ k' : Nat, k = (k' : Int) ∧ k' ≤ lss[p].n ∧ Below w.heap.size w wr, fun k _ => lss[p].n - k.toNat, ⟨0, rfl, by omega, b⟩, ?_⟩
  clear b
  rintro _ wr ⟨k, rfl, hk, b⟩
  unfold F22_l2
  obtain ⟨al, hal, hc⟩ := (ol.rd.below b).at p hpl
  refine ⟨o, rfl, lr, ho wr b, by omega, by omega, al, hal, lss[p], by simpa using hc, fun hk1 => ?_, fun hk1 => ?_⟩
  · obtain ⟨a, ha, hcv⟩ := (hs.below b).at k (by simp; omega)
    obtain ⟨am, ham, hcmk⟩ := (om.rd.below b).at p (by omega)
    refine ⟨o, rfl, lr, ho wr b, by omega, by omega, al, hal, lss[p], by simpa using hc, by omega, by omega, a, ha, _, hcv, o, rfl, mr, ho1 wr b, by omega, by omega, am, ham, _, hcmk, ?_⟩
    rintro _ ⟨m, rfl⟩
    refine ⟨fun hne => absurd (by rw [List.getElem_replicate]) hne, fun _ => ⟨⟨k + 1, ?_, by omega, below_drewN b m⟩, ?_⟩⟩
    · rw [w_i64 (by omega) (by omega)]; omega
    · show lss[p].n - (IntKind.i64.wrap ((k : Int) + 1)).toNat < lss[p].n - ((k : Int)).toNat
      rw [w_i64 (by omega) (by omega)]; omega
  · refine ⟨⟨p + 1, ?_, by omega, b⟩, ?_⟩
    · rw [w_i64 (by omega) (by omega)]; omega
    · show lss.length - (IntKind.i64.wrap ((p : Int) + 1)).toNat < lss.length - ((p : Int)).toNat
      rw [w_i64 (by omega) (by omega)]; omega
end Go.Proofs.Ythhcaaellhdkiaa
