/- Write: the hash object, as bytes come. -/
import Derived.Test.YtjgijifankaglaaSQ
namespace Go.Proofs.Ytjgijifankaglaa
open Go Go.RowKit Go.Proofs.Ytjgijifankaglaa.SX
set_option linter.unusedVariables false

theorem many_pre (K : Nat → Int) (s : S8) {l l' : List Int} : ∀ n, (∀ j, j < n → (l.drop (64 * j)).take 64 = (l'.drop (64 * j)).take 64) → s.many K l n = s.many K l' n
  | 0, _ => rfl
  | n + 1, h => by
    unfold S8.many
    rw [many_pre K s n (fun j hj => h j (by omega)), h n (by omega)]
theorem many_app (K : Nat → Int) (s : S8) (a b : List Int) {n : Nat} (h : 64 * n ≤ a.length) : s.many K (a ++ b) n = s.many K a n := by
  refine many_pre K s n fun j hj => ?_
  rw [List.drop_append_of_le_length (by omega), List.take_append_of_le_length (by rw [List.length_drop]; omega)]
theorem sets_size : ∀ (vs : List Value) (i : Nat) (cs : Array Value), (sets cs i vs).size = cs.size
  | [], i, cs => rfl
  | v :: vs, i, cs => by unfold sets; rw [sets_size vs]; simp
theorem sets_at : ∀ (vs : List Value) (i : Nat) (cs : Array Value) (j : Nat), i + vs.length ≤ cs.size → (sets cs i vs)[j]? = if i ≤ j ∧ j < i + vs.length then vs[j - i]? else cs[j]?
  | [], i, cs, j, h => by unfold sets; rw [if_neg (by simp only [List.length_nil]; omega)]
  | v :: vs, i, cs, j, h => by
    unfold sets
    simp only [List.length_cons] at h ⊢
    rw [sets_at vs (i + 1) _ j (by simp; omega)]
    by_cases h1 : j = i
    · subst h1
      rw [if_neg (by omega), if_pos (by omega), Array.getElem?_setIfInBounds_self_of_lt (by omega)]; simp
    · by_cases h2 : i + 1 ≤ j ∧ j < i + 1 + vs.length
      · rw [if_pos h2, if_pos (by omega)]
        obtain ⟨d, rfl⟩ : ∃ d, j = i + 1 + d := ⟨j - (i + 1), by omega⟩
        rw [show i + 1 + d - (i + 1) = d by omega, show i + 1 + d - i = d + 1 by omega, List.getElem?_cons_succ]
      · rw [if_neg h2, if_neg (by omega), Array.getElem?_setIfInBounds_ne (by omega)]
def S8.vals (s : S8) : List Value := [.int .u32 s.a, .int .u32 s.b, .int .u32 s.c, .int .u32 s.d, .int .u32 s.e, .int .u32 s.f, .int .u32 s.g, .int .u32 s.h]
theorem S8.vals_at (s : S8) {j : Nat} (h : j < 8) : s.vals[j]? = some (.int .u32 (s.at j)) := by
  match j, h with
  | 0, _ => rfl
  | 1, _ => rfl
  | 2, _ => rfl
  | 3, _ => rfl
  | 4, _ => rfl
  | 5, _ => rfl
  | 6, _ => rfl
  | 7, _ => rfl
section
variable {w w' : World} {g : Nat} {h k : Nat → Int} {rest : Sl} {n : Int}
theorem Hrow.lt (H : Hrow w g h k rest n) : g < w.heap.size := by
  obtain ⟨cs, h1, _⟩ := H
  exact row_lt h1
theorem Hrow.has (H : Hrow w g h k rest n) {j : Nat} (hj : j < 74) : HasCell w ((⟨g, 0, none⟩ : Addr).add j) := by
  obtain ⟨cs, h1, h2, _⟩ := H
  rw [add_lit]; exact row_has h1 (by omega)
theorem Hrow.has8 (H : Hrow w g h k rest n) : HasCells w ⟨g, 0, none⟩ 0 8 := by
  obtain ⟨cs, h1, h2, _⟩ := H
  exact row_hass h1 8 0 (by omega)
theorem Hrow.r (H : Hrow w g h k rest n) : w.cell? ((⟨g, 0, none⟩ : Addr).add 72) = some (.slice rest.a rest.n rest.c) := by
  obtain ⟨cs, h1, h2, h3, h4, h5, h6⟩ := H
  rw [add_lit, row_get h1]; exact h5
theorem Hrow.num (H : Hrow w g h k rest n) : w.cell? ((⟨g, 0, none⟩ : Addr).add 73) = some (.int .u64 n) := by
  obtain ⟨cs, h1, h2, h3, h4, h5, h6⟩ := H
  rw [add_lit, row_get h1]; exact h6
theorem Hrow.kat (H : Hrow w g h k rest n) : Kat w (some ((⟨g, 0, none⟩ : Addr).add 8)) k := by
  obtain ⟨cs, h1, h2, h3, h4, h5, h6⟩ := H
  exact ⟨_, rfl, fun i hi => by rw [add2, row_get h1]; exact h4 i hi⟩
theorem Hrow.cells8 {s : S8} (H : Hrow w g s.at k rest n) : CellsAt w ⟨g, 0, none⟩ 0 s.vals := by
  obtain ⟨cs, h1, h2, h3, h4, h5, h6⟩ := H
  refine cellsAt_of _ _ (fun j hj => ?_)
  have hj8 : j < 8 := hj
  rw [Nat.zero_add, add_lit, row_get h1, h3 j hj8, s.vals_at hj8]
theorem Hrow.setn (H : Hrow w g h k rest n) {m : Int} (e : w' = w.setCell ((⟨g, 0, none⟩ : Addr).add 73) (.int .u64 m)) : Hrow w' g h k rest m ∧ Gr (fun k => k = g) w w' := by
  obtain ⟨cs, h1, h2, h3, h4, h5, h6⟩ := H
  rw [add_lit] at e
  refine ⟨⟨_, by rw [e]; exact row_set h1 _, by simpa using h2, fun j hj => ?_, fun j hj => ?_, ?_, ?_⟩, by rw [e]; exact gr_set w ⟨g, 73, none⟩ _⟩
  · rw [Array.getElem?_setIfInBounds_ne (by omega)]; exact h3 j hj
  · rw [Array.getElem?_setIfInBounds_ne (by omega)]; exact h4 j hj
  · rw [Array.getElem?_setIfInBounds_ne (by omega)]; exact h5
  · rw [Array.getElem?_setIfInBounds_self_of_lt (by omega)]
theorem Hrow.setr (H : Hrow w g h k rest n) {r2 : Sl} (e : w' = w.setCell ((⟨g, 0, none⟩ : Addr).add 72) (.slice r2.a r2.n r2.c)) : Hrow w' g h k r2 n ∧ Gr (fun k => k = g) w w' := by
  obtain ⟨cs, h1, h2, h3, h4, h5, h6⟩ := H
  rw [add_lit] at e
  refine ⟨⟨_, by rw [e]; exact row_set h1 _, by simpa using h2, fun j hj => ?_, fun j hj => ?_, ?_, ?_⟩, by rw [e]; exact gr_set w ⟨g, 72, none⟩ _⟩
  · rw [Array.getElem?_setIfInBounds_ne (by omega)]; exact h3 j hj
  · rw [Array.getElem?_setIfInBounds_ne (by omega)]; exact h4 j hj
  · rw [Array.getElem?_setIfInBounds_self_of_lt (by omega)]
  · rw [Array.getElem?_setIfInBounds_ne (by omega)]; exact h6
theorem Hrow.seth (H : Hrow w g h k rest n) (s : S8) (e : w' = setCells w ⟨g, 0, none⟩ 0 s.vals) : Hrow w' g s.at k rest n ∧ Gr (fun k => k = g) w w' := by
  obtain ⟨cs, h1, h2, h3, h4, h5, h6⟩ := H
  have hl : s.vals.length = 8 := rfl
  have ha : ∀ j, (sets cs 0 s.vals)[j]? = if 0 ≤ j ∧ j < 0 + s.vals.length then s.vals[j - 0]? else cs[j]? := fun j => sets_at _ _ _ _ (by omega)
  refine ⟨⟨_, by rw [e]; exact row_sets s.vals 0 h1, by rw [sets_size]; exact h2, fun j hj => ?_, fun j hj => ?_, ?_, ?_⟩, by rw [e]; exact gr_sets s.vals 0 w⟩
  · rw [ha, if_pos (by omega), Nat.sub_zero, s.vals_at hj]
  · rw [ha, if_neg (by omega)]; exact h4 j hj
  · rw [ha, if_neg (by omega)]; exact h5
  · rw [ha, if_neg (by omega)]; exact h6
end
/-- the object in the midst: what it has made, how many came, what stands behind the blocks -/
structure Hm (w : World) (g : Nat) (fp : Nat → Prop) (s : S8) (tot : Int) (rest : Sl) (xs : List Int) : Prop where
  fg : fp g
  fr : ∀ k, rest.blk = some k → fp k ∧ k ≠ g
  own : Own B8 5 0 w rest xs
  row : Hrow w g s.at KR rest tot
section
variable {w w' : World} {g : Nat} {fp : Nat → Prop} {s : S8} {tot : Int} {rest : Sl} {xs : List Int}
theorem Hm.below (H : Hm w g fp s tot rest xs) (hb : Below w.heap.size w w') : Hm w' g fp s tot rest xs :=
  ⟨H.fg, H.fr, H.own.below hb, H.row.gr (Gr.below (S := fun _ => False) hb) (fun h => h)⟩
theorem Hm.wide {fq : Nat → Prop} (H : Hm w g fp s tot rest xs) (hq : ∀ k, fp k → fq k) : Hm w g fq s tot rest xs := ⟨hq _ H.fg, fun k hk => ⟨hq _ (H.fr k hk).1, (H.fr k hk).2⟩, H.own, H.row⟩
theorem Hm.atg (H : Hm w g fp s tot rest xs) (q : Gr (fun k => k = g) w w') : Own B8 5 0 w' rest xs := q.own H.own (fun k hk => (H.fr k hk).2)
theorem Hm.setn (H : Hm w g fp s tot rest xs) {m : Int} (e : w' = w.setCell ((⟨g, 0, none⟩ : Addr).add 73) (.int .u64 m)) : Hm w' g fp s m rest xs ∧ Gr fp w w' := by
  obtain ⟨h, q⟩ := H.row.setn e
  exact ⟨⟨H.fg, H.fr, H.atg q, h⟩, q.mono (fun k hk => hk ▸ H.fg)⟩
theorem Hm.seth (H : Hm w g fp s tot rest xs) (t : S8) (e : w' = setCells w ⟨g, 0, none⟩ 0 t.vals) : Hm w' g fp t tot rest xs ∧ Gr fp w w' := by
  obtain ⟨h, q⟩ := H.row.seth t e
  exact ⟨⟨H.fg, H.fr, H.atg q, h⟩, q.mono (fun k hk => hk ▸ H.fg)⟩
/-- rest[:0] -/
theorem Hm.empty (H : Hm w g fp s tot rest xs) (e : w' = w.setCell ((⟨g, 0, none⟩ : Addr).add 72) (.slice rest.a 0 rest.c)) : Hm w' g fp s tot ⟨rest.a, 0, rest.c⟩ [] ∧ Gr fp w w' := by
  obtain ⟨h, q⟩ := H.row.setr (r2 := ⟨rest.a, 0, rest.c⟩) e
  have ho := H.atg q
  refine ⟨⟨H.fg, fun k hk => ?_, ?_, h⟩, q.mono (fun k hk => hk ▸ H.fg)⟩
  · rcases ho.form with ⟨rfl, _⟩ | ⟨g', cap, cur, rfl, _⟩
    · cases hk
    · exact H.fr k hk
  · rcases ho.form with ⟨rfl, _⟩ | ⟨g', cap, cur, rfl, h2, h3, h4, h5, h6, h7⟩
    · exact Own.nil
    · exact ⟨rfl, .inr ⟨g', cap, cur, rfl, h2, h3, Nat.zero_le _, h5, by simpa using h6, by simp⟩⟩
theorem Hm.app (H : Hm w g fp s tot rest xs) {b : Sl} {ys : List Int} (hy : Rd B8 w b ys) (hf : ∀ k, w.heap.size ≤ k → fp k) (hl : xs.length + ys.length ≤ 1000000000000) :
    ∃ (s2 : Sl) (w2 : World), (Builtin.append_ #[33, 33] 33 #[.slice rest.a rest.n rest.c, .slice b.a b.n b.c]).run Try.prog w = .ok (.slice s2.a s2.n s2.c : Value) w2 ∧ HasCell w2 ((⟨g, 0, none⟩ : Addr).add 72) ∧
      ∀ w3, w3 = w2.setCell ((⟨g, 0, none⟩ : Addr).add 72) (.slice s2.a s2.n s2.c) → Hm w3 g fp s tot s2 (xs ++ ys) ∧ Gr fp w w3 := by
  obtain ⟨s2, w2, r2, A⟩ := ap_many (P := Try.prog) (ty := 33) ty22 b8one H.own hy (Nat.zero_le _) (by omega)
  have q : Gr (fun k => rest.blk = some k) w w2 := Gr.row A.grown (fun b hb => hb)
  have hrow := H.row.gr q (fun hk => (H.fr g hk).2 rfl)
  have hg := H.row.lt
  refine ⟨s2, w2, r2, hrow.has (by omega), fun w3 e => ?_⟩
  obtain ⟨h, q3⟩ := hrow.setr e
  have fr2 : ∀ k, s2.blk = some k → fp k ∧ k ≠ g := by
    intro k hk
    rcases A.blk with hb | ⟨c, hb, hc⟩
    · exact H.fr k (hb ▸ hk)
    · rw [hb] at hk; cases hk
      exact ⟨hf _ hc, by omega⟩
  refine ⟨⟨H.fg, fr2, q3.own A.own (fun k hk => (fr2 k hk).2), h⟩, ?_⟩
  exact (q.mono (fun k hk => (H.fr k hk).1)).trans (q3.mono (fun k hk => (hk ▸ H.fg : fp k))) (fun i _ hi => hi)
end
/-- a hash that has begun, and holds bytes -/
def Hs (w : World) (g : Nat) (fp : Nat → Prop) (bs : List Int) : Prop := ∃ rest, Hm w g fp (S8.start.many KR bs (bs.length / 64)) ((bs.length : Nat) : Int) rest (bs.drop (64 * (bs.length / 64)))
/-- a hash that holds bytes -/
def Hst (w : World) (g : Nat) (fp : Nat → Prop) (bs : List Int) : Prop := Hs w g fp bs ∨ (bs = [] ∧ fp g ∧ Hrow w g (fun _ => 0) (fun _ => 0) ⟨none, 0, 0⟩ 0)
theorem C78 {w : World} {g : Nat} {fp : Nat → Prop} {bs : List Int} (H : Hst w g fp bs) : Calls Try.prog 78 #[.pointer (some ⟨g, 0, none⟩)] w (fun e w1 => e = .returned (.tuple #[]) ∧ (Hs w1 g fp bs ∧ Gr fp w w1)) := by
  rcases H with ⟨rest, H⟩ | ⟨rfl, hg, H⟩
  · refine (C78_on H.row).mono ?_
    rintro _ w1 ⟨rfl, rfl⟩
    exact ⟨rfl, ⟨rest, H⟩, Gr.refl _ _⟩
  · refine (C78_off H).mono ?_
    rintro _ w1 ⟨rfl, h, q⟩
    exact ⟨rfl, ⟨⟨none, 0, 0⟩, hg, (fun k hk => nomatch hk), Own.nil, h⟩, q.mono (fun k hk => hk ▸ hg)⟩
end Go.Proofs.Ytjgijifankaglaa
