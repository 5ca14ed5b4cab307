/- The document's Walk. -/
import Derived.Test.YtjgijifankaglaaWD
import Derived.Test.YtjgijifankaglaaPF
namespace Go.Proofs.Ytjgijifankaglaa
open Go Go.RowKit Go.Proofs.Ytjgijifankaglaa.SX
set_option linter.unusedVariables false

theorem C36 {w : World} {l : Sl} {rs : List (Sl × List Int)} (hl : Rd RV w l rs) (hr : ∀ r ∈ rs, Rd E4 w r.1 r.2) (hlen : ∀ r ∈ rs, r.2.length ≤ 400) (hn9 : rs.length ≤ 9) :
    Calls Try.prog 36 #[.slice l.a l.n l.c] w (fun e w1 => ∃ (r0 r1 : Sl), e = .returned (.tuple #[.slice r0.a r0.n r0.c, .slice r1.a r1.n r1.c]) ∧ (Below w.heap.size w w1 ∧
      ((AUp (rs.map (·.2)) ∧ SX.Own E4 23 w.heap.size w1 r0 (UL (rs.map (·.2))) ∧ SX.Own I8 3 w.heap.size w1 r1 ((UL (rs.map (·.2))).map (cntL (rs.map (·.2))))) ∨ (¬ AUp (rs.map (·.2)) ∧ r0 = ⟨none, 0, 0⟩ ∧ r1 = ⟨none, 0, 0⟩)))) := by
  have LLn : (rs.map (·.2)).length = rs.length := by simp
  have hLi : ∀ i (h : i < rs.length), (rs.map (·.2))[i]? = some rs[i].2 := by
    intro i h
    rw [List.getElem?_map, List.getElem?_eq_getElem h]; rfl
  have hL4 : ∀ x ∈ rs.map (·.2), x.length ≤ 400 := by
    intro x hx
    obtain ⟨r, h1, rfl⟩ := List.mem_map.1 hx
    exact hlen r h1
  generalize hLL : rs.map (·.2) = L at *
  refine F36_sound l (fun r0 r1 w1 => Below w.heap.size w w1 ∧ ((AUp L ∧ SX.Own E4 23 w.heap.size w1 r0 (UL L) ∧ SX.Own I8 3 w.heap.size w1 r1 ((UL L).map (cntL L))) ∨ (¬ AUp L ∧ r0 = ⟨none, 0, 0⟩ ∧ r1 = ⟨none, 0, 0⟩))) w ?_
  unfold F36
  have hln := hl.1
  refine ⟨fun st wr => ∃ i : Nat, st.2 = (i : Int) ∧ i ≤ rs.length ∧ AUp (L.take i) ∧ SX.Own E4 23 w.heap.size wr st.1 (UL (L.take i)) ∧ Below w.heap.size w wr, fun st _ => (rs.length - st.2).toNat, ⟨0, rfl, Nat.zero_le _, (fun x hx => nomatch hx), SX.Own.nil, Below.refl _ _⟩, ?_⟩
  rintro ⟨out, _⟩ wr ⟨i, rfl, hi, hU, ho, hw⟩
  dsimp only at ho
  unfold F36_l1
  refine ⟨fun hlt => ?_, fun hge => ?_⟩
  · have hin : i < rs.length := by omega
    have hmem : rs[i] ∈ rs := List.getElem_mem hin
    obtain ⟨a, ha, hcell⟩ := hl.at i hin
    have cellr : ∀ x : World, Below w.heap.size w x → x.cell? (a.add (Int.toNat (i : Int))) = some (.slice rs[i].1.a rs[i].1.n rs[i].1.c) := fun x hx => by rw [Int.toNat_natCast, hx.cell (World.block_lt_of_cell? w _ hcell)]; exact hcell
    have hLm : rs[i].2 ∈ L := List.mem_of_getElem? (hLi i hin)
    refine ⟨by omega, by omega, a, ha, rs[i].1, cellr _ hw, ?_⟩
    refine (C35 ((hr _ hmem).below hw)).mono ?_
    rintro _ w8 ⟨_, rfl, rfl, bq⟩
    have ho := ho.below bq
    have hw := hw.trans (bq.mono hw.size)
    refine ⟨_, rfl, fun hf => ?_, fun ht => ?_⟩
    · exact ⟨hw, .inr ⟨(fun h => by rw [up_rise (h _ hLm)] at hf; cases hf), rfl, rfl⟩⟩
    · refine ⟨by omega, by omega, a, ha, rs[i].1, cellr _ hw, ?_⟩
      have hul := ul_len (L.take i) [] 400 (fun x hx => hL4 x (List.mem_of_mem_take hx))
      rw [List.length_take] at hul
      simp only [List.length_nil, Nat.zero_add] at hul
      have hul2 : (UL (L.take i)).length ≤ 3600 := by unfold UL; omega
      refine (C25 ho.rd ((hr _ hmem).below hw) (by have := hlen _ hmem; omega)).mono ?_
      rintro _ w12 ⟨s, rfl, os, bq⟩
      have hwz := hw.size
      have hw := hw.trans (bq.mono hw.size)
      refine ⟨s, rfl, ?_⟩
      rw [w_i64 (by omega) (by omega)]
      have htk : L.take (i + 1) = L.take i ++ [rs[i].2] := by
        have hiL : i < L.length := by omega
        rw [← List.take_append_getElem hiL]
        have := hLi i hin
        rw [List.getElem?_eq_getElem hiL] at this
        rw [Option.some.inj this]
      refine ⟨⟨i + 1, by (try dsimp only); omega, by omega, ?_, ?_, hw⟩, by (try dsimp only); omega⟩
      · rw [htk]
        intro x hx
        rcases List.mem_append.1 hx with hx | hx
        · exact hU x hx
        · rw [List.mem_singleton] at hx
          rw [hx]; exact rise_up ht
      · rw [htk, UL_snoc]
        exact os.lower hwz
  · have hin : i = rs.length := by omega
    rw [List.take_of_length_le (by omega)] at hU ho
    have hul := ul_len L [] 400 hL4
    simp only [List.length_nil, Nat.zero_add] at hul
    have hul2 : (UL L).length ≤ 3600 := by unfold UL; omega
    have hon := ho.len
    refine ⟨fun st wq => ∃ i : Nat, st.2 = (i : Int) ∧ i ≤ (UL L).length ∧ SX.Own I8 3 w.heap.size wq st.1 (((UL L).take i).map (cntL L)) ∧ SX.Own E4 23 w.heap.size wq out (UL L) ∧ Below w.heap.size w wq, fun st _ => ((UL L).length - st.2).toNat, ⟨0, rfl, Nat.zero_le _, SX.Own.nil, ho, hw⟩, ?_⟩
    clear ho hw hge
    rintro ⟨many, _⟩ wq ⟨i, rfl, hi, hm, ho, hw⟩
    dsimp only at hm
    unfold F36_l2
    refine ⟨fun hlt => ?_, fun hge => ?_⟩
    · have hin2 : i < (UL L).length := by omega
      refine ⟨fun st wz => ∃ k : Nat, st.2 = (k : Int) ∧ k ≤ rs.length ∧ st.1 = ((cntL (L.take k) (UL L)[i] : Nat) : Int) ∧ SX.Own I8 3 w.heap.size wz many (((UL L).take i).map (cntL L)) ∧ SX.Own E4 23 w.heap.size wz out (UL L) ∧ Below w.heap.size w wz, fun st _ => (rs.length - st.2).toNat, ⟨0, rfl, Nat.zero_le _, rfl, hm, ho, hw⟩, ?_⟩
      clear hm ho hw
      rintro ⟨n9, _⟩ wz ⟨k, rfl, hk, hn9', hm, ho, hw⟩
      dsimp only at hn9'
      unfold F36_l3
      have hck : cntL (L.take k) (UL L)[i] ≤ 9 := by
        have := List.countP_le_length (p := fun l => decide ((UL L)[i] ∈ l)) (l := L.take k)
        rw [List.length_take] at this
        unfold cntL; omega
      refine ⟨fun hlt2 => ?_, fun hge2 => ?_⟩
      · have hkn : k < rs.length := by omega
        have hmem : rs[k] ∈ rs := List.getElem_mem hkn
        intro w19 hd
        have bd : Below wz.heap.size wz w19 := by rw [hd]; exact (Below.refl _ _).drew
        clear hd
        have hm := hm.below bd
        have ho := ho.below bd
        have hw := hw.trans (bd.mono hw.size)
        obtain ⟨a, ha, hcell⟩ := (hl.below hw).at k hkn
        obtain ⟨b, hb, hbc⟩ := ho.rd.at i hin2
        refine ⟨by omega, by omega, a, ha, rs[k].1, by rw [Int.toNat_natCast]; exact hcell, by omega, by omega, b, hb, (UL L)[i], by rw [Int.toNat_natCast]; exact hbc, ?_⟩
        refine (C68 ((hr _ hmem).below hw) _).mono ?_
        rintro _ w25 ⟨_, rfl, rfl, rfl⟩
        have htk : L.take (k + 1) = L.take k ++ [rs[k].2] := by
          have hiL : k < L.length := by omega
          rw [← List.take_append_getElem hiL]
          have := hLi k hkn
          rw [List.getElem?_eq_getElem hiL] at this
          rw [Option.some.inj this]
        have hcs : cntL (L.take (k + 1)) (UL L)[i] = cntL (L.take k) (UL L)[i] + if (UL L)[i] ∈ rs[k].2 then 1 else 0 := by
          rw [htk]
          unfold cntL
          rw [List.countP_append, List.countP_singleton]
          simp only [decide_eq_true_eq]
        refine ⟨_, rfl, fun h => ?_, fun h => ?_⟩
        · unfold F36_j4
          rw [w_i64 (n := n9 + 1) (by omega) (by omega), w_i64 (by omega) (by omega)]
          refine ⟨⟨k + 1, by (try dsimp only); omega, by omega, ?_, hm, ho, hw⟩, by (try dsimp only); omega⟩
          (try dsimp only); rw [hcs, if_pos (of_decide_eq_true h), hn9']; omega
        · unfold F36_j4
          rw [w_i64 (by omega) (by omega)]
          refine ⟨⟨k + 1, by (try dsimp only); omega, by omega, ?_, hm, ho, hw⟩, by (try dsimp only); omega⟩
          (try dsimp only); rw [hcs, if_neg (of_decide_eq_false h), hn9']; omega
      · have hkn : k = rs.length := by omega
        rw [List.take_of_length_le (by omega)] at hn9'
        subst hn9'
        rintro w28 rfl
        obtain ⟨s2, w2, r2, A⟩ := ap_one (P := Try.prog) (ty := 41) (enc := I8) tyI (fun _ => rfl) hm (cntL L (UL L)[i]) hw.size (by rw [List.length_map, List.length_take]; omega)
        refine ⟨s2, w2, r2, ?_⟩
        have ho2 : SX.Own E4 23 w.heap.size w2 out (UL L) := ho.kept A.grown (by
          cases hb : out.blk with
          | none => exact .inl rfl
          | some q => exact .inr (fun e => own_ne ho hm (by decide) hb e.symm))
        rw [w_i64 (by omega) (by omega)]
        refine ⟨⟨i + 1, by (try dsimp only); omega, by omega, ?_, ho2, A.below hm hw.size hw⟩, by (try dsimp only); omega⟩
        rw [← List.take_append_getElem hin2, List.map_append]
        exact A.own
    · have hin2 : i = (UL L).length := by omega
      rw [List.take_of_length_le (by omega)] at hm
      exact ⟨hw, .inl ⟨hU, ho, hm⟩⟩
end Go.Proofs.Ytjgijifankaglaa
