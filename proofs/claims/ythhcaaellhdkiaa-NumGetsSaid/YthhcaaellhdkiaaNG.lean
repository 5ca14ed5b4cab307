/- The law NumGets, but for its frame. -/
import Derived.Test.YthhcaaellhdkiaaFM
import Derived.Test.YthhcaaellhdkiaaGN4
namespace Go.Proofs.Ythhcaaellhdkiaa
open Go Go.RowKit Go.Proofs.Ythhcaaellhdkiaa.SX
set_option linter.unusedVariables false

theorem Fl.retags {B q p : Nat} {o : Addr} {l lr mr : Sl} {ls lss : List Sl} {tag tag' : Nat → Nat} {w : World} {ms : List Int} {cont : Nat → List Int} {rs : List (Sl × Int)}
    (h : Fl B o l ls q p tag w lr mr lss ms cont rs) (he : ∀ b, b < w.heap.size → tag' b = tag b) : Fl B o l ls q p tag' w lr mr lss ms cont rs := by
  refine { h with ob := ⟨h.ob.1, ?_⟩, tl := ?_, tm := ?_, ta := ?_, ti := ?_, rd := ?_ }
  · rw [he _ h.ob_lt]; exact h.ob.2
  · intro a ha; rw [he _ (h.ol.a_lt a ha)]; exact h.tl a ha
  · intro a ha; rw [he _ (h.om.a_lt a ha)]; exact h.tm a ha
  · intro a ha; rw [he _ (h.oa.a_lt a ha)]; exact h.ta a ha
  · intro i hi hq a ha; rw [he _ ((h.oi i hi hq).a_lt a ha)]; exact h.ti i hi hq a ha
  · intro s m hm
    refine ⟨(h.rd s m hm).1, fun a ha => ?_⟩
    have := (h.rd s m hm).2 a ha
    rw [he _ this.2.2]; exact this

/-- one more list comes out -/
theorem Fl.add {B : Nat} {o : Addr} {l lr mr : Sl} {ls lss : List Sl} {tag : Nat → Nat} {w w1 : World} {ms : List Int} {cont : Nat → List Int}
    (h : Fl B o l ls 0 0 tag w lr mr lss ms cont []) (hB : B ≤ w.heap.size) (hg : Below w.heap.size w w1) {s : Sl} {z : List Int} (hs : Own B8 5 w.heap.size w1 s z) (hl : (ls.length + 1) * 24 ≤ 140737488355328) :
    ∃ l2 w2 tag2, (Builtin.append_ #[26, 26] 26 #[.slice l.a l.n l.c, .slice (some ⟨w1.heap.size, 0, none⟩) 1 1]).run Try.prog (w1.alloc (.cells #[s.v] 22)) = .ok (.slice l2.a l2.n l2.c) w2 ∧
      Fl B o l2 (ls ++ [s]) 0 0 tag2 w2 lr mr lss ms (fun i => if i = ls.length then z else cont i) [] ∧ w1.grownBy w2 l.blk ∧ (∀ k, l.blk = some k → B ≤ k) := by
  have f1 := ((h.retag (4 + ls.length)).keep (grown_of_below' hg none)).retag (w := w1) 3
  generalize htag : tagged tag w (4 + ls.length) = tag1 at f1
  have hst : ∀ a, s.a = some a → tag1 a.block = 4 + ls.length := by
    intro a ha
    have := hs.blk_ge _ (hs.a_blk a ha)
    rw [← htag, tagged_new this.1]
  obtain ⟨l2, w2, hrun, hap⟩ := ap_one (ty := 26) ty26 svone f1.oa s (Nat.le_trans hB hg.size) hl
  have hr : ∀ b, l.blk = some b → tagged tag1 w1 3 b = 3 := fun b hb => f1.ta _ (f1.oa.blk_a b hb)
  have h0 := f1.keepO hap.grown hr (by omega)
  have hs2 : Own B8 5 B w1 s z := hs.lower hB
  have hst2 : ∀ a, s.a = some a → tagged tag1 w1 3 a.block = 4 + ls.length := fun a ha => by rw [tagged_old (hs.a_lt a ha)]; exact hst a ha
  refine ⟨l2, w2, tagged tag1 w1 3, hrun, ?_, hap.grown, fun k hk => (f1.oa.blk_ge k hk).1⟩
  refine { co := h0.1, cm := h0.2.1, fo := h0.2.2.1, fm := h0.2.2.2, ob := f1.ob, ol := f1.ol.keepT hap.grown hr f1.tl (by omega), om := f1.om.keepT hap.grown hr f1.tm (by omega), oa := hap.own, oi := ?_, tl := f1.tl, tm := f1.tm, ta := ?_, ti := ?_, rd := fun s m hm => (nomatch hm) }
  · intro i hi hq
    by_cases hil : i = ls.length
    · subst hil
      rw [if_pos rfl, List.getElem_concat_length rfl]
      exact hs2.keepT hap.grown hr hst2 (by omega)
    · rw [if_neg hil]
      have hi' : i < ls.length := by simp at hi; omega
      rw [List.getElem_append_left hi']
      exact (f1.oi i hi' hq).keepT hap.grown hr (f1.ti i hi' hq) (by omega)
  · intro a ha
    have hb := hap.own.a_blk a ha
    rcases hap.blk with h1 | ⟨b, h1, h2⟩
    · exact hr _ (by rw [← h1]; exact hb)
    · rw [hb] at h1; cases h1; exact tagged_new h2
  · intro i hi hq a ha
    by_cases hil : i = ls.length
    · subst hil
      rw [List.getElem_concat_length rfl] at ha
      exact hst2 a ha
    · have hi' : i < ls.length := by simp at hi; omega
      rw [List.getElem_append_left hi'] at ha
      exact f1.ti i hi' hq a ha

/-- a new owner -/
theorem Fl.fresh (w : World) : Fl w.heap.size ⟨w.heap.size, 0, none⟩ ⟨none, 0, 0⟩ [] 0 0 (fun _ => 0) (w.alloc (.cells #[.slice none 0 0, .slice none 0 0] 28)) ⟨none, 0, 0⟩ ⟨none, 0, 0⟩ [] [] (fun _ => []) [] := by
  have hc : ∀ j (hj : j < 2), (w.alloc (.cells #[.slice none 0 0, .slice none 0 0] 28)).cell? ((⟨w.heap.size, 0, none⟩ : Addr).add j) = some (.slice none 0 0) := by
    intro j hj
    rw [row_cell w #[.slice none 0 0, .slice none 0 0] 28 j (by simpa using hj) (Below.refl _ _)]
    match j, hj with
    | 0, _ => rfl
    | 1, _ => rfl
  exact { co := hc 0 (by omega), cm := hc 1 (by omega), fo := by simp, fm := by rw [add_lit]; simp, ob := ⟨Nat.le_refl _, rfl⟩, ol := Own.nil, om := Own.nil, oa := Own.nil, oi := fun i hi => by simp at hi, tl := fun a ha => (nomatch ha), tm := fun a ha => (nomatch ha), ta := fun a ha => (nomatch ha), ti := fun i hi => by simp at hi, rd := fun s m hm => (nomatch hm) }

theorem F4_spec {b : Sl} {xs : List Int} {most : Int} {w : World} (hb : Rd B8 w b xs) (hxs : bys xs) (hl : xs.length + 200 ≤ 140737488355328) (hm : most ≤ 9223372036854775807) : F4 b most (fun r w1 => r = true ∧ Below w.heap.size w w1) w := by
  unfold F4
  refine (C12 w).mono ?_
  rintro _ w4 ⟨_, rfl, rfl, b4⟩
  refine ⟨true, rfl, ?_⟩
  refine (C13 (hb.below b4) (by omega)).mono ?_
  rintro _ w6 ⟨x, rfl, ox, b6⟩
  refine ⟨x, rfl, ?_⟩
  rintro _ rfl
  have hxl := ox.len
  have hbl := hb.len
  simp only [List.length_append, List.length_replicate] at hxl
  have hxsb : bys (xs ++ List.replicate 8 201) := bys_append hxs (fun y hy => by rw [List.mem_replicate] at hy; omega)
  have b46 := b4.trans (b6.mono b4.size)
  have hB : Below w6.heap.size w6 (w6.alloc (.cells #[.slice none 0 0, .slice none 0 0] 28)) := (Below.refl _ _).alloc (Nat.le_refl _) _
  refine ⟨fun s wr => ∃ (t : Nat) (ls : List Sl) (tag : Nat → Nat) (cont : Nat → List Int), s.2 = (t : Int) ∧ t ≤ 3 ∧ ls.length = t ∧ Fl w6.heap.size ⟨w6.heap.size, 0, none⟩ s.1 ls 0 0 tag wr ⟨none, 0, 0⟩ ⟨none, 0, 0⟩ [] [] cont [] ∧ Below w6.heap.size w6 wr ∧ (∀ i, i < ls.length → (cont i).length ≤ xs.length),
    fun s _ => 3 - s.2.toNat, ⟨0, [], _, _, rfl, by omega, rfl, Fl.fresh w6, hB, fun i hi => by simp at hi⟩, ?_⟩
  clear hB
  rintro ⟨all, _⟩ wr ⟨t, ls, tag, cont, rfl, ht, hlt, f, hB, hcl⟩
  dsimp only at f
  unfold F4_l1
  have ox' := ox.below hB
  have hbr := hb.below (b46.trans (hB.mono b46.size))
  have htake : (xs ++ List.replicate 8 (201 : Int)).take xs.length = xs := by simp
  refine ⟨fun ht3 => ?_, fun ht3 => ?_⟩
  · obtain ⟨sc, hcut, hrc⟩ := rd_hi ox'.rd (b.n : Int) xs.length (by omega) (by simp)
    rw [htake] at hrc
    refine ⟨sc, hcut _, ?_⟩
    refine (C23 hrc hxs (by omega) hm).mono ?_
    rintro _ w14 ⟨s, _, rfl, os, rfl, b14⟩
    refine ⟨s, true, rfl, ?_⟩
    refine (C20 ((ox'.rd).below b14) (hbr.below b14) (by omega)).mono ?_
    rintro _ w16 ⟨_, rfl, rfl, b16⟩
    refine ⟨true, rfl, fun h => (nomatch h), fun _ => ⟨fun h => (nomatch h), fun _ => ?_⟩⟩
    rintro _ rfl
    obtain ⟨l2, w2, tag2, hrun, f2, hg2, hge⟩ := f.add hB.size (b14.trans (b16.mono b14.size)) (os.below b16) (by omega)
    have hB16 := hB.trans ((b14.trans (b16.mono b14.size)).mono hB.size)
    refine ⟨l2, w2, hrun, ⟨t + 1, _, tag2, _, ?_, by omega, by simp [hlt], f2, hB16.grown hg2 hB16.size hge, ?_⟩, ?_⟩
    · show IntKind.i64.wrap ((t : Int) + 1) = _
      rw [w_i64 (by omega) (by omega)]; omega
    · intro i hi
      by_cases hil : i = ls.length
      · simp only [if_pos hil]
        have := byt_range (most := most) hxs
        omega
      · simp only [if_neg hil]
        exact hcl i (by simp at hi; omega)
    · show 3 - (IntKind.i64.wrap ((t : Int) + 1)).toNat < 3 - ((t : Int)).toNat
      rw [w_i64 (by omega) (by omega)]; omega
  · refine (C21 (Nat.le_refl _) hB f (by omega) (fun i hi => by have := hcl i hi; omega)).mono ?_
    rintro _ w20 ⟨rfl, hB20, hfull⟩
    refine ⟨rfl, ?_⟩
    refine (C22 hfull).mono ?_
    rintro _ w22 ⟨_, rfl, rfl, b22⟩
    refine ⟨true, rfl, ?_⟩
    have hB22 := hB20.trans (b22.mono hB20.size)
    have ox22 := ox.below hB22
    have hb22 := hb.below (b46.trans (hB22.mono b46.size))
    refine (C20 ox22.rd hb22 (by omega)).mono ?_
    rintro _ w24 ⟨_, rfl, rfl, b24⟩
    refine ⟨true, rfl, fun h => (nomatch h), fun _ => ⟨fun h => (nomatch h), fun _ => ⟨fun h => (nomatch h), fun _ => ?_⟩⟩⟩
    have hB24 := hB22.trans (b24.mono hB22.size)
    have ox24 := ox.below hB24
    have b24' := b46.trans (hB24.mono b46.size)
    refine ⟨fun i wr => ∃ (k : Nat) (ys : List Int), i = (k : Int) ∧ k ≤ x.n ∧ Own B8 5 w4.heap.size wr x ys ∧ bys ys ∧ Below w.heap.size w wr, fun i _ => x.n - i.toNat, ⟨0, _, rfl, by omega, ox24, hxsb, b24'⟩, ?_⟩
    rintro _ wr2 ⟨k, ys, rfl, hk, oy, hys, hb2⟩
    unfold F4_l2
    have hyl := oy.len
    refine ⟨fun hlt2 => ?_, fun hge2 => ?_⟩
    · obtain ⟨a, ha, hab, hc, oy2, hg⟩ := oy.set k (by omega) (IntKind.u8.wrap (ys[k]'(by omega) + 1))
      obtain ⟨a', ha', hcell⟩ := oy.rd.at k (by omega)
      rw [ha] at ha'; cases ha'
      refine ⟨by omega, by omega, a, ha, _, hcell, by omega, by omega, a, ha, hc, ?_⟩
      rintro _ rfl
      refine ⟨⟨k + 1, _, ?_, by omega, oy2, ?_, hb2.grown hg hb2.size (fun k' hk' => Nat.le_trans b4.size (oy.blk_ge k' hk').1)⟩, ?_⟩
      · rw [w_i64 (by omega) (by omega)]; omega
      · intro y hy
        rcases List.mem_or_eq_of_mem_set hy with hy | rfl
        · exact hys y hy
        · rw [wm_u8]; omega
      · show x.n - (IntKind.i64.wrap ((k : Int) + 1)).toNat < x.n - ((k : Int)).toNat
        rw [w_i64 (by omega) (by omega)]; omega
    · obtain ⟨sc, hcut, hrc⟩ := rd_hi oy.rd (b.n : Int) xs.length (by omega) (by omega)
      refine ⟨sc, hcut _, ?_⟩
      refine (C23 hrc (bys_take hys _) (by simp; omega) hm).mono ?_
      rintro _ w34 ⟨s, _, rfl, os, rfl, b34⟩
      exact ⟨s, true, rfl, rfl, hb2.trans (b34.mono hb2.size)⟩
end Go.Proofs.Ythhcaaellhdkiaa
