/- Write: bytes go into the hash object. -/
import Derived.Test.YtjgijifankaglaaSR
namespace Go.Proofs.Ytjgijifankaglaa
open Go Go.RowKit Go.Proofs.Ytjgijifankaglaa.SX
set_option linter.unusedVariables false

theorem drop_at {α : Type} (a b : List α) (m : Nat) : (a ++ b).drop (a.length + m) = b.drop m := by
  rw [List.drop_append]; simp
theorem cut_blk {s : Sl} {l : Nat} {a : Addr} (h : (if s.c = l then s.a else s.a.map (·.add l)) = some a) : ∃ a0, s.a = some a0 ∧ a.block = a0.block := by
  split at h
  · exact ⟨a, h, rfl⟩
  · cases hsa : s.a with
    | none => rw [hsa] at h; cases h
    | some a0 =>
      rw [hsa] at h; cases h
      exact ⟨a0, rfl, add_block _ _⟩
theorem Gr.rd0 {S : Nat → Prop} {w w' : World} {s : Sl} {xs : List Int} (q : Gr S w w') (h : Rd B8 w s xs) (hn : ∀ a, s.a = some a → 0 < s.n → ¬ S a.block) : Rd B8 w' s xs :=
  ⟨h.1, h.2.1, h.2.2.1, fun h0 => by
    obtain ⟨a, h1, h2⟩ := h.2.2.2 h0
    exact ⟨a, h1, fun j hj => q.cell (h2 j hj) (by rw [add_block]; exact hn a h1 h0)⟩⟩
theorem C47 {w : World} {g : Nat} {fp : Nat → Prop} {bs cs : List Int} {b : Sl} (H0 : Hst w g fp bs) (hr : Rd B8 w b cs) (hb : ∀ a, b.a = some a → 0 < b.n → ¬ fp a.block) (hl : bs.length + cs.length ≤ 100000000000) :
    Calls Try.prog 47 #[.pointer (some ⟨g, 0, none⟩), .slice b.a b.n b.c] w (fun e w1 => e = .returned (.tuple #[]) ∧ (Hs w1 g (fun k => fp k ∨ w.heap.size ≤ k) (bs ++ cs) ∧ Gr fp w w1)) := by
  refine F47_sound (some ⟨g, 0, none⟩) b (fun w1 => Hs w1 g (fun k => fp k ∨ w.heap.size ≤ k) (bs ++ cs) ∧ Gr fp w w1) w ?_
  unfold F47
  have hn := hr.1
  have hbc := hr.2.1
  have tr : ∀ {x y : World}, Gr fp w x → Gr (fun k => fp k ∨ w.heap.size ≤ k) x y → Gr fp w y := fun q1 q2 => q1.trans q2 (fun i hi h => h.resolve_right (by omega))
  have trb : ∀ {x y : World}, Gr fp w x → Below x.heap.size x y → Gr fp w y := fun q1 q2 => q1.trans (Gr.below q2) (fun i _ h => h)
  refine (C78 H0).mono ?_
  rintro _ w1 ⟨rfl, ⟨rest, H⟩, q⟩
  refine ⟨rfl, _, rfl, _, H.row.num, _, rfl, H.row.has (by omega), ?_⟩
  intro w7 e
  rw [w_u64 (n := (b.n : Int)) (by omega) (by omega), w_u64 (by omega) (by omega)] at e
  obtain ⟨H, q7⟩ := H.setn e
  have q := q.trans q7 (fun i _ h => h)
  clear e q7
  have H := H.wide (fq := fun k => fp k ∨ w.heap.size ≤ k) (fun k hk => .inl hk)
  have et : ((bs.length : Nat) : Int) + (b.n : Int) = (((bs ++ cs).length : Nat) : Int) := by rw [List.length_append]; omega
  rw [et] at H
  have j1 : ∀ (x : World) (st : Sl) (m : Nat) (rest : Sl), m ≤ cs.length → (bs.length + m) % 64 = 0 → Rd B8 w st (cs.drop m) → (∀ a, st.a = some a → 0 < st.n → ¬ fp a.block) → Gr fp w x →
      Hm x g (fun k => fp k ∨ w.heap.size ≤ k) (S8.start.many KR (bs ++ cs) ((bs.length + m) / 64)) (((bs ++ cs).length : Nat) : Int) rest [] →
      F47_j1 (some ⟨g, 0, none⟩) (fun w1 => Hs w1 g (fun k => fp k ∨ w.heap.size ≤ k) (bs ++ cs) ∧ Gr fp w w1) st x := by
    intro x st m rest hm h64 hst hsb q H
    unfold F47_j1
    refine ⟨fun st wq => ∃ (m : Nat) (rest : Sl), m ≤ cs.length ∧ (bs.length + m) % 64 = 0 ∧ Rd B8 w st (cs.drop m) ∧ (∀ a, st.a = some a → 0 < st.n → ¬ fp a.block) ∧ Gr fp w wq ∧ Hm wq g (fun k => fp k ∨ w.heap.size ≤ k) (S8.start.many KR (bs ++ cs) ((bs.length + m) / 64)) (((bs ++ cs).length : Nat) : Int) rest [], fun st _ => st.n, ⟨m, rest, hm, h64, hst, hsb, q, H⟩, ?_⟩
    clear hst hsb q H hm h64 rest m
    rintro st wq ⟨m, rest, hm, h64, hst, hsb, q, H⟩
    unfold F47_l2
    have hsn := hst.1
    rw [List.length_drop] at hsn
    have hsc := hst.2.1
    refine ⟨fun hge => ?_, fun hlt => ?_⟩
    · intro w56 hm2
      have bq : Below wq.heap.size wq w56 := by rw [hm2]; exact below_draw (Below.refl _ _) 1
      clear hm2
      have H := H.below bq
      have q := trb q bq
      refine ⟨_, rfl, _, _, _, _, _, _, _, _, H.row.cells8, _, rfl, ⟨st.a, 64, st.c⟩, cut_hi (w := w56) ty22 st 64 64 rfl (by omega), ?_⟩
      have hrd := (q.rd0 hst hsb).take 64 (by rw [List.length_drop]; omega)
      refine (C79 (s := S8.start.many KR (bs ++ cs) ((bs.length + m) / 64)) H.row.kat hrd (by rw [List.length_take, List.length_drop]; omega)).mono ?_
      rintro _ w76 ⟨rfl, b76⟩
      have H := H.below b76
      have q := trb q b76
      refine ⟨_, _, _, _, _, _, _, _, rfl, _, rfl, H.row.has8, ?_⟩
      intro w78 e
      obtain ⟨H, q2⟩ := H.seth ((S8.start.many KR (bs ++ cs) ((bs.length + m) / 64)).block KR ((cs.drop m).take 64)) e
      have q := tr q q2
      refine ⟨⟨_, _, _⟩, cut_lo (w := w78) ty22 st 64 64 rfl (by omega), ⟨m + 64, rest, by omega, by omega, ?_, ?_, q, ?_⟩, ?_⟩
      · have := hst.drop 64 (by rw [List.length_drop]; omega)
        rw [List.drop_drop] at this
        exact this
      · intro a ha hp
        obtain ⟨a0, h0, h1⟩ := cut_blk (s := st) ha
        rw [h1]; exact hsb a0 h0 (by omega)
      · have e1 : (bs.length + (m + 64)) / 64 = (bs.length + m) / 64 + 1 := by omega
        rw [e1]
        show Hm w78 g _ ((S8.start.many KR (bs ++ cs) ((bs.length + m) / 64)).block KR (((bs ++ cs).drop (64 * ((bs.length + m) / 64))).take 64)) _ rest []
        rw [show 64 * ((bs.length + m) / 64) = bs.length + m by omega, drop_at]
        exact H
      · show st.n - 64 < st.n; omega
    · obtain ⟨s2, w2, r2, h2, f2⟩ := H.app (q.rd0 hst hsb) (fun k hk => .inr (Nat.le_trans q.size hk)) (by rw [List.length_nil, List.length_drop]; omega)
      refine ⟨_, rfl, rest, H.row.r, s2, w2, r2, _, rfl, h2, ?_⟩
      intro w85 e
      obtain ⟨H, q2⟩ := f2 w85 e
      refine ⟨⟨s2, ?_⟩, tr q q2⟩
      have e1 : (bs ++ cs).length / 64 = (bs.length + m) / 64 := by rw [List.length_append]; omega
      rw [e1, show 64 * ((bs.length + m) / 64) = bs.length + m by omega, drop_at]
      exact H
  have hmn : S8.start.many KR bs (bs.length / 64) = S8.start.many KR (bs ++ cs) (bs.length / 64) := (many_app KR S8.start bs cs (by omega)).symm
  have hrl := H.own.len
  rw [List.length_drop] at hrl
  refine ⟨_, rfl, rest, H.row.r, fun hpos => ?_, fun hneg => ?_⟩
  · obtain ⟨k, hk1, hk2, hk3, hk4⟩ : ∃ k : Nat, (if ((b.n : Int)) < (IntKind.i64.wrap (64 - ((rest.n : Int)))) then ((b.n : Int)) else (IntKind.i64.wrap (64 - ((rest.n : Int))))) = (k : Int) ∧ k ≤ cs.length ∧ k + rest.n ≤ 64 ∧ (k = cs.length ∨ k + rest.n = 64) := by
      rw [w_i64 (by omega) (by omega)]
      by_cases hc : b.n < 64 - rest.n
      · exact ⟨b.n, by rw [if_pos (by omega)], by omega, by omega, by omega⟩
      · exact ⟨64 - rest.n, by rw [if_neg (by omega)]; omega, by omega, by omega, by omega⟩
    refine ⟨_, rfl, rest, H.row.r, ?_⟩
    rw [hk1]
    intro w12 hm2
    have bq : Below w7.heap.size w7 w12 := by rw [hm2]; exact below_draw (Below.refl _ _) 1
    clear hm2
    have H := H.below bq
    have q := trb q bq
    obtain ⟨s2, w2, r2, h2, f2⟩ := H.app ((q.rd0 hr hb).take k hk2) (fun k hk => .inr (Nat.le_trans q.size hk)) (by rw [List.length_drop, List.length_take]; omega)
    refine ⟨_, rfl, rest, H.row.r, ⟨_, _, _⟩, cut_hi (w := w12) ty22 b _ k rfl (by omega), s2, w2, r2, _, rfl, h2, ?_⟩
    intro w19 e
    obtain ⟨H, q2⟩ := f2 w19 e
    have q := tr q q2
    clear e f2 r2 h2 q2
    have hs2 := H.own.len
    rw [List.length_append, List.length_drop, List.length_take] at hs2
    refine ⟨⟨_, _, _⟩, cut_lo (w := w19) ty22 b _ k rfl (by omega), _, rfl, s2, H.row.r, fun hlt => ?_, fun hge => ?_⟩
    · have hk : k = cs.length := by omega
      have e1 : (bs ++ cs).length / 64 = bs.length / 64 := by rw [List.length_append]; omega
      refine ⟨⟨s2, ?_⟩, q⟩
      rw [e1, ← hmn, List.drop_append_of_le_length (by omega)]
      rw [hk, List.take_of_length_le (Nat.le_refl _)] at H
      exact H
    · have hk : k + rest.n = 64 := by omega
      intro w23 hm2
      have bq : Below w19.heap.size w19 w23 := by rw [hm2]; exact below_draw (Below.refl _ _) 1
      clear hm2
      have H := H.below bq
      have q := trb q bq
      refine ⟨_, rfl, _, _, _, _, _, _, _, _, H.row.cells8, _, rfl, _, rfl, s2, H.row.r, ?_⟩
      refine (C79 (s := S8.start.many KR bs (bs.length / 64)) H.row.kat H.own.rd (by rw [List.length_append, List.length_drop, List.length_take]; omega)).mono ?_
      rintro _ w44 ⟨rfl, b44⟩
      have H := H.below b44
      have q := trb q b44
      refine ⟨_, _, _, _, _, _, _, _, rfl, _, rfl, H.row.has8, ?_⟩
      intro w46 e
      obtain ⟨H, q2⟩ := H.seth ((S8.start.many KR bs (bs.length / 64)).block KR (bs.drop (64 * (bs.length / 64)) ++ cs.take k)) e
      have q := tr q q2
      clear e q2
      refine ⟨_, rfl, s2, H.row.r, ⟨s2.a, 0, s2.c⟩, cut_hi (w := w46) ty22 s2 0 0 rfl (by omega), _, rfl, H.row.has (by omega), ?_⟩
      intro w51 e
      obtain ⟨H, q2⟩ := H.empty e
      have q := tr q q2
      refine j1 w51 _ k ⟨s2.a, 0, s2.c⟩ hk2 (by omega) (hr.drop k hk2) ?_ q ?_
      · intro a ha hp
        have hp : 0 < b.n - k := hp
        obtain ⟨a0, h0, h1⟩ := cut_blk (s := b) ha
        rw [h1]; exact hb a0 h0 (by omega)
      · have e1 : (bs.length + k) / 64 = bs.length / 64 + 1 := by omega
        rw [e1]
        show Hm w51 g _ ((S8.start.many KR (bs ++ cs) (bs.length / 64)).block KR (((bs ++ cs).drop (64 * (bs.length / 64))).take 64)) _ _ []
        rw [← hmn, List.drop_append_of_le_length (by omega), List.take_append, List.take_of_length_le (l := bs.drop (64 * (bs.length / 64))) (by rw [List.length_drop]; omega), List.length_drop, show 64 - (bs.length - 64 * (bs.length / 64)) = k by omega]
        exact H
  · have h0 : rest.n = 0 := by omega
    have e0 : bs.drop (64 * (bs.length / 64)) = [] := List.eq_nil_of_length_eq_zero (by rw [List.length_drop]; omega)
    rw [e0, hmn] at H
    exact j1 w7 b 0 rest (Nat.zero_le _) (by omega) (by simpa using hr) hb q (by simpa using H)
end Go.Proofs.Ytjgijifankaglaa
