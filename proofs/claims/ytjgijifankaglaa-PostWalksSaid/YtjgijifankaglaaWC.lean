/- The iterator that Walk hands back. -/
import Derived.Test.YtjgijifankaglaaWB
import Derived.Test.YtjgijifankaglaaWP
import Derived.Test.YtjgijifankaglaaGWa
import Derived.Test.YtjgijifankaglaaGWb
import Derived.Test.YtjgijifankaglaaPE
import Derived.Shelf.Abstract
namespace Go.Proofs.Ytjgijifankaglaa
open Go Go.RowKit Go.Proofs.Ytjgijifankaglaa.SX
set_option linter.unusedVariables false

abbrev RV (r : Sl × List Int) : Value := .slice r.1.a r.1.n r.1.c
abbrev I8 (n : Nat) : Value := .int .i64 (n : Int)
theorem tyI : Ty Try.prog 41 3 (.int .i64 0) 8 := ⟨Try.underlying41, by kernel_rfl, rfl, by decide⟩
/-- what the closure has captured -/
def AllAt (W : World) (c : Nat) (rs : List (Sl × List Int)) : Prop := ∃ all : Sl, W.heap[c]? = some (.cells #[.slice all.a all.n all.c] 40 (0, 0)) ∧ Rd RV W all rs ∧ ∀ r ∈ rs, Rd E4 W r.1 r.2
theorem Gr.rdk {α : Type} {enc : α → Value} {S : Nat → Prop} {w w' : World} {s : Sl} {xs : List α} (q : Gr S w w') (h : Rd enc w s xs) (hn : ∀ a, s.a = some a → 0 < s.n → ¬ S a.block) : Rd enc w' s xs :=
  ⟨h.1, h.2.1, h.2.2.1, fun h0 => by
    obtain ⟨a, h1, h2⟩ := h.2.2.2 h0
    exact ⟨a, h1, fun j hj => q.cell (h2 j hj) (by rw [add_block]; exact hn a h1 h0)⟩⟩
theorem row_lt2 {W : World} {g e : Nat} {cs : Array Value} (h : W.heap[g]? = some (.cells cs e (0, 0))) : g < W.heap.size := (Array.getElem?_eq_some_iff.1 h).1
theorem own_uniq {e base : Nat} {w : World} {s : Sl} {xs ys : List Nat} (h : SX.Own I8 e base w s xs) (k : SX.Own I8 e base w s ys) : xs = ys := by
  have hx := h.len
  have hy := k.len
  refine List.ext_getElem (by omega) (fun i h1 h2 => ?_)
  obtain ⟨a, ha, hc⟩ := h.rd.at i h1
  obtain ⟨b, hb, hd⟩ := k.rd.at i h2
  rw [ha] at hb; cases hb
  rw [hc] at hd
  have := Option.some.inj hd
  simp only [Value.int.injEq, true_and] at this
  omega
theorem rd_blk_lt {α : Type} {enc : α → Value} {w : World} {s : Sl} {xs : List α} (h : Rd enc w s xs) {a : Addr} (ha : s.a = some a) (hn : 0 < s.n) : a.block < w.heap.size := by
  obtain ⟨a', ha', hc⟩ := h.2.2.2 hn
  rw [ha] at ha'; cases ha'
  have := World.block_lt_of_cell? w _ (hc 0 (by have := h.1; omega))
  rwa [add_block] at this
/-- lists, each from a place on -/
def rem (L : LL) (ats : List Nat) : LL := List.zipWith (fun l a => l.drop a) L ats
theorem rem_get {L : LL} {ats : List Nat} (h : ats.length = L.length) {i : Nat} (hi : i < L.length) : (rem L ats)[i]? = some (L[i].drop (ats[i]'(by omega))) := by
  unfold rem
  rw [List.getElem?_zipWith, List.getElem?_eq_getElem hi, List.getElem?_eq_getElem (by omega : i < ats.length)]
theorem rem_len {L : LL} {ats : List Nat} (h : ats.length = L.length) : (rem L ats).length = L.length := by unfold rem; rw [List.length_zipWith]; omega
theorem rem_up {L : LL} {ats : List Nat} (h : AUp L) : AUp (rem L ats) := by
  intro l hl
  unfold rem at hl
  rw [List.mem_iff_getElem?] at hl
  obtain ⟨i, hi⟩ := hl
  rw [List.getElem?_zipWith] at hi
  cases h1 : L[i]? with
  | none => rw [h1] at hi; simp at hi
  | some x =>
    cases h2 : ats[i]? with
    | none => rw [h1, h2] at hi; simp at hi
    | some y =>
      rw [h1, h2] at hi
      simp only [Option.some.injEq] at hi
      rw [← hi]
      exact List.Pairwise.sublist (List.drop_sublist _ _) (h x (List.mem_of_getElem? h1))
def nIs (l : List Nat) : List Int := l.map fun n : Nat => (n : Int)
/-- the iterator -/
theorem C74 {w : World} {kb c : Nat} {rs : List (Sl × List Int)} (hall : AllAt w c rs) (hc : c ≠ kb) (hkb : ∀ r ∈ rs, ∀ a, r.1.a = some a → 0 < r.1.n → a.block ≠ kb) (hka : ∀ all : Sl, w.heap[c]? = some (.cells #[.slice all.a all.n all.c] 40 (0, 0)) → ∀ a, all.a = some a → 0 < all.n → a.block ≠ kb)
    (hU : AUp (rs.map (·.2))) (hlen : ∀ r ∈ rs, r.2.length ≤ 400) (hrl : rs.length ≤ 9) : Iter w kb (.func (.func 74) #[] #[.pointer (some ⟨c, 0, none⟩)]) (MM (rs.map (·.2))) := by
  refine ⟨74, #[.pointer (some ⟨c, 0, none⟩)], rfl, enters_of Try.func74 (by kernel_rfl) rfl, ?_⟩
  intro l J Jx W1 hz hJ hJx hJg hY h0
  obtain ⟨all, ha1, ha2, ha3⟩ := hall
  have hka := hka all ha1
  have hcl := row_lt2 ha1
  have keep : ∀ pre W, J pre W → W.cell? ⟨c, 0, none⟩ = some (.slice all.a all.n all.c) ∧ Rd RV W all rs ∧ ∀ r ∈ rs, Rd E4 W r.1 r.2 := by
    intro pre W hj
    have q := hJg pre W hj
    refine ⟨?_, q.rdk ha2 (fun a ha hn h => ?_), fun r hr => q.rdk (ha3 r hr) (fun a ha hn h => ?_)⟩
    · refine q.cell (by rw [cell_of_row w c 0 _ 40 (0, 0) ha1]; rfl) (fun h => ?_)
      rcases h with h | h
      · exact hc h
      · have h1 : w.heap.size ≤ c := h.1
        omega
    · rcases h with h | h
      · exact hka a ha hn h
      · have := rd_blk_lt ha2 ha hn; omega
    · rcases h with h | h
      · exact hkb r hr a ha hn h
      · have := rd_blk_lt (ha3 r hr) ha hn; omega
  have hK : Calls Try.prog 74 #[.func (.yield l) #[] #[], .pointer (some ⟨c, 0, none⟩)] W1 (fun e w1 => e = .returned (.tuple #[]) ∧ (J (MM (rs.map (·.2))) w1 ∨ ∃ pre, Jx pre w1)) := by
    refine F74_sound (.func (.yield l) #[] #[]) ⟨c, 0, none⟩ (fun w1 => J (MM (rs.map (·.2))) w1 ∨ ∃ pre, Jx pre w1) W1 ?_
    unfold F74
    have hal := ha2.1
    refine ⟨all, (keep [] W1 h0).1, ?_⟩
    obtain ⟨t, w5, r5, o5, b5⟩ : ∃ (s : Sl) (w3 : World), (Instr.makeSlice 41 (.int .i64 (all.n : Int)) (.int .i64 (all.n : Int))).run Try.prog W1 = .ok (.slice s.a s.n s.c) w3 ∧ SX.Own I8 3 W1.heap.size w3 s (List.replicate all.n 0) ∧ Below W1.heap.size W1 w3 :=
      ⟨⟨_, _, _⟩, _, mk_own (P := Try.prog) (w := W1) (enc := I8) tyI (x := 0) rfl (all.n : Int) (all.n : Int) all.n all.n rfl rfl (Nat.le_refl _) (by omega) (by simp only [maxLen]; omega)⟩
    refine ⟨t, w5, r5, ?_⟩
    have hj5 : J [] w5 := hJ _ _ _ h0 (Gr.below b5)
    have LL0 : (rs.map (·.2)).length = rs.length := by simp
    generalize hLL : rs.map (·.2) = L at *
    have hLi : ∀ i (h : i < rs.length) (h2 : i < L.length), L[i] = rs[i].2 := by
      intro i h h2
      subst hLL
      simp
    have hLn : L.length = all.n := by omega
    obtain ⟨msr, hmsr⟩ : ∃ msr : World → Nat, ∀ W ats, SX.Own I8 3 W1.heap.size W t ats → msr W = (MM (rem L ats)).length := by
      classical
      refine ⟨fun W => if h : ∃ ats, SX.Own I8 3 W1.heap.size W t ats then (MM (rem L h.choose)).length else 0, fun W ats h => ?_⟩
      have hex : ∃ ats, SX.Own I8 3 W1.heap.size W t ats := ⟨ats, h⟩
      show (if h : ∃ ats, SX.Own I8 3 W1.heap.size W t ats then (MM (rem L h.choose)).length else 0) = _
      rw [dif_pos hex, own_uniq hex.choose_spec h]
    have tblk : ∀ W ats, SX.Own I8 3 W1.heap.size W t ats → ∀ k, t.blk = some k → W1.heap.size ≤ k := fun W ats h k hk => (h.blk_ge k hk).1
    refine ⟨fun _ W => ∃ pre ats, J pre W ∧ SX.Own I8 3 W1.heap.size W t ats ∧ ats.length = L.length ∧ (∀ i (h : i < ats.length) (h2 : i < L.length), ats[i] ≤ L[i].length) ∧ pre ++ MM (rem L ats) = MM L, fun _ W => msr W, ?_, ?_⟩
    · refine ⟨[], List.replicate all.n 0, hj5, o5, by rw [List.length_replicate, hLn], fun i h h2 => by rw [List.getElem_replicate]; exact Nat.zero_le _, ?_⟩
      have : rem L (List.replicate all.n 0) = L := by
        apply List.ext_getElem?
        intro i
        by_cases hi : i < L.length
        · rw [rem_get (by rw [List.length_replicate, hLn]) hi, List.getElem_replicate, List.drop_zero, List.getElem?_eq_getElem hi]
        · rw [List.getElem?_eq_none (by rw [rem_len (by rw [List.length_replicate, hLn])]; omega), List.getElem?_eq_none (by omega)]
      rw [this]; rfl
    · clear o5 hj5 b5 r5 h0 w5
      rintro ⟨⟩ W ⟨pre, ats, hj, ho, hal, hle, hpre⟩
      unfold F74_l1
      have hot := ho.len
      have hR : AUp (rem L ats) := rem_up hU
      have hRl := rem_len hal
      refine ⟨all, (keep pre W hj).1, ?_⟩
      -- one list's part
      have part : ∀ i (hi : i < all.n), ∃ (a : Addr) (s : Sl) (A : Nat), all.a = some a ∧ (∀ pre W', J pre W' → W'.cell? (a.add i) = some (.slice s.a s.n s.c) ∧ Rd E4 W' s (L[i]'(by omega))) ∧ s.n = (L[i]'(by omega)).length ∧ ats[i]'(by omega) = A ∧ A ≤ s.n ∧ (rem L ats)[i]? = some ((L[i]'(by omega)).drop A) := by
        intro i hi
        have hir : i < rs.length := by omega
        have hiL : i < L.length := by omega
        have hL2 := hLi i hir hiL
        obtain ⟨a, ha, hcc⟩ := ha2.at i hir
        refine ⟨a, rs[i].1, ats[i]'(by omega), ha, fun pre W' hj' => ?_, ?_, rfl, ?_, rem_get hal hiL⟩
        · obtain ⟨a', ha', hc'⟩ := (keep pre W' hj').2.1.at i hir
          rw [ha] at ha'; cases ha'
          rw [hL2]
          exact ⟨hc', (keep pre W' hj').2.2 _ (List.getElem_mem hir)⟩
        · rw [hL2]; exact ((ha3 _ (List.getElem_mem hir)).1).symm
        · have h1 := hle i (by omega) hiL
          have h2 := (ha3 _ (List.getElem_mem hir)).1
          rw [hL2] at h1
          omega
      refine ⟨fun st wr => wr = W ∧ ∃ i : Nat, st.2.2 = (i : Int) ∧ i ≤ all.n ∧ ((st.2.1 = true ∧ lst ((rem L ats).take i) = some st.1) ∨ (st.2.1 = false ∧ lst ((rem L ats).take i) = none)), fun st _ => (all.n - st.2.2).toNat, ⟨rfl, 0, rfl, Nat.zero_le _, .inr ⟨rfl, rfl⟩⟩, ?_⟩
      rintro ⟨least, some', _⟩ wr ⟨rfl, i, rfl, hi, hsc⟩
      unfold F74_l2
      dsimp only at hsc
      refine ⟨fun hlt => ?_, fun hge => ?_⟩
      · have hin : i < all.n := by omega
        obtain ⟨a, s, A, ha, hread, hsn, hA, hAs, hrem⟩ := part i hin
        obtain ⟨hcell, hrd⟩ := hread pre wr hj
        obtain ⟨ta, hta, htc⟩ := ho.rd.at i (by omega)
        rw [hA] at htc
        have hiL : i < L.length := by omega
        have htk : (rem L ats).take (i + 1) = (rem L ats).take i ++ [L[i].drop A] := by
          have hi2 : i < (rem L ats).length := by omega
          rw [← List.take_append_getElem hi2]
          rw [List.getElem?_eq_getElem hi2] at hrem
          rw [Option.some.inj hrem]
        have hat : (0 : Int) ≤ (i : Int) ∧ (i : Int) < (t.n : Int) := by omega
        have htc2 : wr.cell? (ta.add (Int.toNat (i : Int))) = some (.int .i64 (A : Int)) := by rw [Int.toNat_natCast]; exact htc
        have nx : ∀ l2 b2, ((b2 = true ∧ lst ((rem L ats).take (i + 1)) = some l2) ∨ (b2 = false ∧ lst ((rem L ats).take (i + 1)) = none)) → F74_j3 (i : Int) (fun s' w' => (w' = wr ∧ ∃ i : Nat, s'.2.2 = (i : Int) ∧ i ≤ all.n ∧ ((s'.2.1 = true ∧ lst ((rem L ats).take i) = some s'.1) ∨ (s'.2.1 = false ∧ lst ((rem L ats).take i) = none))) ∧ (all.n - s'.2.2).toNat < (all.n - (i : Int)).toNat) l2 b2 wr := by
          intro l2 b2 h
          unfold F74_j3
          rw [w_i64 (by omega) (by omega)]
          exact ⟨⟨rfl, i + 1, by (try dsimp only); omega, by omega, h⟩, by (try dsimp only); omega⟩
        refine ⟨by omega, hlt, a, ha, s, by rw [Int.toNat_natCast]; exact hcell, hat.1, hat.2, ta, hta, (A : Int), htc2, fun h1 => ?_, fun h1 => ?_⟩
        · have hAl : A < L[i].length := by omega
          obtain ⟨sa, hsa, hsc2⟩ := hrd.at A hAl
          have hsc3 : wr.cell? (sa.add (Int.toNat (A : Int))) = some (.int .u32 L[i][A]) := by rw [Int.toNat_natCast]; exact hsc2
          have hd : L[i].drop A = L[i][A] :: L[i].drop (A + 1) := List.drop_eq_getElem_cons hAl
          have hA2 : (0 : Int) ≤ (A : Int) ∧ (A : Int) < (s.n : Int) := by omega
          refine ⟨fun h2 => ⟨hat.1, hat.2, ta, hta, (A : Int), htc2, hA2.1, hA2.2, sa, hsa, L[i][A], hsc3, nx _ _ (.inl ⟨rfl, ?_⟩)⟩, fun h2 => ⟨hat.1, hat.2, ta, hta, (A : Int), htc2, hA2.1, hA2.2, sa, hsa, L[i][A], hsc3, fun h3 => ⟨hat.1, hat.2, ta, hta, (A : Int), htc2, hA2.1, hA2.2, sa, hsa, L[i][A], hsc3, nx _ _ (.inl ⟨rfl, ?_⟩)⟩, fun h3 => nx _ _ (.inl ⟨h2, ?_⟩)⟩⟩
          · rw [htk, lst_snoc, hd]
            rcases hsc with ⟨h, _⟩ | ⟨_, h⟩
            · rw [h2] at h; cases h
            · rw [h]; rfl
          · rw [htk, lst_snoc, hd]
            rcases hsc with ⟨_, h⟩ | ⟨h, _⟩
            · rw [h]
              show (if L[i][A] < least then some L[i][A] else some least) = _
              rw [if_pos h3]
            · rw [h2] at h; cases h
          · rw [htk, lst_snoc, hd]
            rcases hsc with ⟨_, h⟩ | ⟨h, _⟩
            · rw [h]
              show (if L[i][A] < least then some L[i][A] else some least) = _
              rw [if_neg h3]
            · rw [h2] at h; cases h
        · have hd : L[i].drop A = [] := List.drop_eq_nil_of_le (by omega)
          refine nx _ _ ?_
          rw [htk, lst_snoc, hd]
          exact hsc
      · have hin : i = all.n := by omega
        rw [hin, List.take_of_length_le (by omega)] at hsc
        refine ⟨fun h2 => ?_, fun h2 => ?_⟩
        · rcases hsc with ⟨h, _⟩ | ⟨_, h⟩
          · rw [h2] at h; cases h
          · rw [MM_end hR h, List.append_nil] at hpre
            rw [← hpre]
            exact .inl hj
        · have hm : lst (rem L ats) = some least := by
            rcases hsc with ⟨_, h⟩ | ⟨h, _⟩
            · exact h
            · rw [h2] at h; cases h
          clear hsc hin hi hge h2
          obtain ⟨hstep, _⟩ := MM_step hR hm
          refine ⟨all, (keep pre wr hj).1, ?_⟩
          refine ⟨fun st wq => ∃ (i : Nat) (ats2 : List Nat), st.2 = (i : Int) ∧ i ≤ all.n ∧ J pre wq ∧ SX.Own I8 3 W1.heap.size wq t ats2 ∧ ats2.length = ats.length ∧ (∀ j (h : j < ats.length) (h2 : j < ats2.length), ats2[j] = if j < i ∧ (((rem L ats)[j]?).bind List.head?) = some least then ats[j] + 1 else ats[j]) ∧ st.1 = ((cn least ((rem L ats).take i) : Nat) : Int), fun st _ => (all.n - st.2).toNat, ⟨0, ats, rfl, Nat.zero_le _, hj, ho, rfl, fun j h h2 => by rw [if_neg (by omega)], rfl⟩, ?_⟩
          rintro ⟨many, _⟩ wq ⟨i, ats2, rfl, hi, hj2, ho2, hl2, hat2, hmany⟩
          dsimp only at hmany
          unfold F74_l4
          refine ⟨fun hlt => ?_, fun hge => ?_⟩
          · have hin : i < all.n := by omega
            obtain ⟨a, s, A, ha, hread, hsn, hA, hAs, hrem⟩ := part i hin
            obtain ⟨hcell, hrd⟩ := hread pre wq hj2
            obtain ⟨ta, hta, htc⟩ := ho2.rd.at i (by omega)
            have hA2 : ats2[i]'(by omega) = A := by rw [hat2 i (by omega) (by omega), if_neg (by omega), hA]
            rw [hA2] at htc
            have hiL : i < L.length := by omega
            have htk : (rem L ats).take (i + 1) = (rem L ats).take i ++ [L[i].drop A] := by
              have hi2 : i < (rem L ats).length := by omega
              rw [← List.take_append_getElem hi2]
              have h := hrem
              rw [List.getElem?_eq_getElem hi2] at h
              rw [Option.some.inj h]
            have hat : (0 : Int) ≤ (i : Int) ∧ (i : Int) < (t.n : Int) := by omega
            have htc2 : wq.cell? (ta.add (Int.toNat (i : Int))) = some (.int .i64 (A : Int)) := by rw [Int.toNat_natCast]; exact htc
            have hcn : ∀ l2, cn least ((rem L ats).take i ++ [l2]) = cn least ((rem L ats).take i) + if l2.head? = some least then 1 else 0 := by
              intro l2
              unfold cn
              rw [List.countP_append, List.countP_singleton]
              simp only [decide_eq_true_eq]
            have hcl : cn least ((rem L ats).take i) ≤ i := by
              unfold cn
              have := List.countP_le_length (p := fun l => decide (l.head? = some least)) (l := (rem L ats).take i)
              rw [List.length_take] at this
              omega
            have nx : ∀ (wz : World) (ats3 : List Nat) (m2 : Int), J pre wz → SX.Own I8 3 W1.heap.size wz t ats3 → ats3.length = ats.length → (∀ j (h : j < ats.length) (h2 : j < ats3.length), ats3[j] = if j < i + 1 ∧ (((rem L ats)[j]?).bind List.head?) = some least then ats[j] + 1 else ats[j]) → m2 = ((cn least ((rem L ats).take (i + 1)) : Nat) : Int) →
                F74_j5 (i : Int) (fun s' w' => (∃ (i : Nat) (ats2 : List Nat), s'.2 = (i : Int) ∧ i ≤ all.n ∧ J pre w' ∧ SX.Own I8 3 W1.heap.size w' t ats2 ∧ ats2.length = ats.length ∧ (∀ j (h : j < ats.length) (h2 : j < ats2.length), ats2[j] = if j < i ∧ (((rem L ats)[j]?).bind List.head?) = some least then ats[j] + 1 else ats[j]) ∧ s'.1 = ((cn least ((rem L ats).take i) : Nat) : Int)) ∧ (all.n - s'.2).toNat < (all.n - (i : Int)).toNat) m2 wz := by
              intro wz ats3 m2 h1 h2 h3 h4 h5
              unfold F74_j5
              rw [w_i64 (by omega) (by omega)]
              exact ⟨⟨i + 1, ats3, by (try dsimp only); omega, by omega, h1, h2, h3, h4, h5⟩, by (try dsimp only); omega⟩
            have same : ∀ (hno : (L[i].drop A).head? ≠ some least), ∀ j (h : j < ats.length) (h2 : j < ats2.length), ats2[j] = if j < i + 1 ∧ (((rem L ats)[j]?).bind List.head?) = some least then ats[j] + 1 else ats[j] := by
              intro hno j h h2
              rw [hat2 j h h2]
              by_cases hji : j = i
              · subst hji
                rw [if_neg (by omega), if_neg (by rw [hrem]; rintro ⟨_, hx⟩; exact hno hx)]
              · by_cases hlt2 : j < i
                · simp only [hlt2, show j < i + 1 by omega]
                · rw [if_neg (by omega), if_neg (by omega)]
            refine ⟨by omega, hlt, a, ha, s, by rw [Int.toNat_natCast]; exact hcell, hat.1, hat.2, ta, hta, (A : Int), htc2, fun h1 => ?_, fun h1 => ?_⟩
            · have hAl : A < L[i].length := by omega
              obtain ⟨sa, hsa, hsc2⟩ := hrd.at A hAl
              have hsc3 : wq.cell? (sa.add (Int.toNat (A : Int))) = some (.int .u32 L[i][A]) := by rw [Int.toNat_natCast]; exact hsc2
              have hd : L[i].drop A = L[i][A] :: L[i].drop (A + 1) := List.drop_eq_getElem_cons hAl
              have hA3 : (0 : Int) ≤ (A : Int) ∧ (A : Int) < (s.n : Int) := by omega
              refine ⟨hat.1, hat.2, ta, hta, (A : Int), htc2, hA3.1, hA3.2, sa, hsa, L[i][A], hsc3, fun h3 => ?_, fun h3 => ?_⟩
              · obtain ⟨a2, ha2', hblk, hcel, o3, g3⟩ := ho2.set i (by omega) (A + 1)
                refine ⟨hat.1, hat.2, ta, hta, (A : Int), htc2, hat.1, hat.2, a2, ha2', by rw [Int.toNat_natCast]; exact hcel, ?_⟩
                have hlen400 : L[i].length ≤ 400 := by
                  rw [hLi i (by omega) hiL]
                  exact hlen _ (List.getElem_mem (by omega))
                rw [Int.toNat_natCast, w_i64 (n := (A : Int) + 1) (by omega) (by omega), w_i64 (n := many + 1) (by omega) (by omega)]
                rintro _ rfl
                refine nx _ (ats2.set i (A + 1)) _ (hJ _ _ _ hj2 (Gr.row g3 (fun k hk => tblk _ _ ho2 k hk))) o3 (by rw [List.length_set, hl2]) (fun j h h2 => ?_) ?_
                · rw [List.getElem_set]
                  by_cases hji : i = j
                  · subst hji
                    rw [if_pos rfl, if_pos ⟨by omega, by rw [hrem, hd, h3]; rfl⟩, hA]
                  · rw [if_neg hji, hat2 j h (by rw [List.length_set] at h2; exact h2)]
                    by_cases hlt2 : j < i
                    · simp only [hlt2, show j < i + 1 by omega]
                    · rw [if_neg (by omega), if_neg (by omega)]
                · rw [htk, hcn, hd, List.head?_cons, h3, if_pos rfl, hmany]; omega
              · refine nx _ ats2 _ hj2 ho2 hl2 (same ?_) ?_
                · rw [hd]; exact fun e => h3 (Option.some.inj e)
                · rw [htk, hcn, hd, List.head?_cons, if_neg (fun e => h3 (Option.some.inj e)), hmany]; omega
            · have hd : L[i].drop A = [] := List.drop_eq_nil_of_le (by omega)
              refine nx _ ats2 _ hj2 ho2 hl2 (same ?_) ?_
              · rw [hd]; exact fun e => nomatch e
              · rw [htk, hcn, hd, if_neg (fun e => nomatch e), hmany]; omega
          · have hin : i = all.n := by omega
            subst hin
            rw [List.take_of_length_le (by omega)] at hmany
            subst hmany
            have hnew : rem L ats2 = (rem L ats).map (adv1 least) := by
              apply List.ext_getElem?
              intro j
              by_cases hjL : j < L.length
              · rw [rem_get (by omega) hjL, List.getElem?_map, rem_get hal hjL, Option.map_some, hat2 j (by omega) (by omega), rem_get hal hjL]
                congr 1
                unfold adv1
                by_cases hh : (L[j].drop (ats[j]'(by omega))).head? = some least
                · rw [if_pos ⟨by omega, hh⟩, if_pos hh, List.tail_drop]
                · rw [if_neg (fun e => hh e.2), if_neg hh]
              · rw [List.getElem?_eq_none (by rw [rem_len (by omega)]; omega), List.getElem?_eq_none (by rw [List.length_map]; omega)]
            have hpre2 : pre ++ [(least, ((cn least (rem L ats) : Nat) : Int))] ++ MM (rem L ats2) = MM L := by
              rw [hnew, ← hpre, hstep, List.append_assoc]; rfl
            have hy := hY pre (least, ((cn least (rem L ats) : Nat) : Int)) wq ⟨MM (rem L ats2), hpre2⟩ hj2
            obtain ⟨fn, tmps, assign, body, hyr, hRd⟩ := hy
            refine ⟨l, rfl, fn, tmps, assign, body, hyr, hRd.mono ?_⟩
            rintro e W' (⟨rfl, hj3, q⟩ | ⟨rfl, hx⟩)
            · refine ⟨true, rfl, (fun h => nomatch h), fun _ => ?_⟩
              have ho3 := q.own ho2 (fun k hk h => by have := tblk _ _ ho2 k hk; omega)
              refine ⟨⟨_, ats2, hj3, ho3, by omega, fun j h h2 => ?_, hpre2⟩, ?_⟩
              · rw [hat2 j (by omega) h]
                have h1 := hle j (by omega) h2
                split
                · rename_i hc2
                  have h3 := hc2.2
                  rw [rem_get hal h2] at h3
                  have h4 : (L[j].drop (ats[j]'(by omega))).head? = some least := h3
                  by_cases h5 : ats[j]'(by omega) < L[j].length
                  · omega
                  · rw [List.drop_eq_nil_of_le (by omega)] at h4; cases h4
                · exact h1
              · show msr W' < msr _
                rw [hmsr _ _ ho3, hmsr _ _ ho, hnew, hstep, List.length_cons]; omega
            · exact ⟨false, rfl, fun _ => .inr ⟨_, hx⟩, fun h => nomatch h⟩
  refine hK.mono ?_
  rintro _ W' ⟨rfl, h⟩
  exact ⟨⟨_, rfl⟩, h⟩
end Go.Proofs.Ytjgijifankaglaa
