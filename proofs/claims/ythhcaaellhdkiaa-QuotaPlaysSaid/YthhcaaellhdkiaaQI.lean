/- The document's own book: Take, Get, Limits, Room. -/
import Derived.Test.YthhcaaellhdkiaaQH
namespace Go.Proofs.Ythhcaaellhdkiaa
open Go Go.RowKit Go.Proofs.Ythhcaaellhdkiaa.SX
set_option linter.unusedVariables false

theorem getA_look {m : Accs} {t : ByteArray} {i : Nat} {a : Acc} (h : look m t = some (i, a)) : getA m t = a := by unfold getA; rw [h]; rfl
section
variable {w w' w1 : World} {q : Nat} {s : Sl} {m : Accs} {fp S : Nat → Prop} {t : ByteArray} {a : Acc}
/-- the account of a tenant, as the book holds it -/
theorem Rf.acc (h : Rf w q s m fp) {i : Nat} (hlk : look m t = some (i, a)) : ∃ b, s.a = some b ∧ CellsAt w ((b.add (i * 6)).add 1) 0 a.l := by
  have him := look_at hlk
  have hil : i < m.length := (List.getElem?_eq_some_iff.1 him).1
  have hx : m[i] = (t, a) := (List.getElem?_eq_some_iff.1 him).2
  obtain ⟨b, hb, hc⟩ := h.rd.at i hil
  refine ⟨b, hb, ?_⟩
  rw [hx] at hc
  rw [cellsAt_shift]
  exact hc.2
theorem C66 (h : Rf w q s m fp) (hi : Inv m) (t : ByteArray) (win n k : Int) (hl : m.length ≤ 1000000) : Calls Try.prog 66 #[.pointer (some ⟨q, 0, none⟩), .string t, .int .i64 win, .int .i64 n, .int .i64 k] w (fun e w1 => ∃ (r0 : Int), e = .returned (.int .i64 r0 : Value) ∧ (r0 = takeC m t win n k ∧ RfR w q (takeM m t win n k) fp w1)) := by
  refine F66_sound _ t win n k (fun r0 w1 => r0 = takeC m t win n k ∧ RfR w q (takeM m t win n k) fp w1) w ?_
  unfold F66
  have hn := h.len
  refine (C73 h t hl).mono ?_
  rintro _ w7 ⟨_, rfl, rfl, rfl⟩
  have done : ∀ (wq : World) (c : Int), Rf wq q s m fp → Gr (fun _ => False) w7 wq → takeC m t win n k = c → c ≠ 0 → c = takeC m t win n k ∧ RfR w7 q (takeM m t win n k) fp wq := by
    intro wq c hq hg hc h0
    refine ⟨hc.symm, s, fp, ?_, hg.mono (fun _ h => h.elim), fun k hk => .inl hk⟩
    unfold takeM; rw [if_neg (by omega)]; exact hq
  refine ⟨_, rfl, fun hk => ?_, fun hk => ?_⟩
  · exact done w7 171 h (Gr.refl _ _) (by unfold takeC; rw [if_pos (idx_neg.1 hk)]) (by omega)
  cases hlk : look m t with
  | none => exact absurd (idx_neg.2 (by rw [hlk]; rfl)) hk
  | some x =>
    obtain ⟨i, a⟩ := x
    have him := look_at hlk
    have hil : i < m.length := (List.getElem?_eq_some_iff.1 him).1
    have hmi : m[i] = (t, a) := (List.getElem?_eq_some_iff.1 him).2
    have hga := getA_look hlk
    have hidx : idx m t = (i : Int) := by unfold idx; rw [hlk]
    rw [hidx]
    have hlow := getA_low hi t
    rw [hga] at hlow
    have t1 : takeC m t win n k = if n < 0 ∨ k < 0 then 1 else if n > a.ms - a.sr then 150 else if k > a.mp - (atA a win).wr then 151 else 0 := by
      unfold takeC; rw [hlk, hga]; rfl
    refine ⟨fun h1 => done w7 1 h (Gr.refl _ _) (by rw [t1, if_pos (by omega)]) (by omega), fun h1 => ⟨fun h2 => done w7 1 h (Gr.refl _ _) (by rw [t1, if_pos (by omega)]) (by omega), fun h2 => ?_⟩⟩
    rw [if_neg (by omega)] at t1
    obtain ⟨b, hb, hc⟩ := h.acc hlk
    refine ⟨_, rfl, s, h.c, by omega, by omega, b, hb, a.ms, a.mp, a.sr, a.wr, a.wi, hc, ?_⟩
    intro w16 hw16
    have r16 : Row5 w16 w7.heap.size 87 .zero := by rw [hw16]; exact Row5.new w7 .zero 87
    have b16 : Below w7.heap.size w7 w16 := by rw [hw16]; exact (Below.refl _ _).alloc (Nat.le_refl _) _
    clear hw16
    refine ⟨r16.hass, ?_⟩
    intro w17 hw17
    obtain ⟨r17, g17⟩ : Row5 w17 w7.heap.size 87 a ∧ Gr (fun k => k = w7.heap.size) w16 w17 := by rw [hw17]; exact r16.sets a
    clear hw17
    have b17 := b16.trans (g17.toBelow b16.size (fun k hk => by omega))
    refine ⟨a.ms, a.mp, a.sr, a.wr, a.wi, r17.at, ?_⟩
    refine (C74 w17 a win).mono ?_
    rintro _ w25 ⟨_, _, rfl, rfl, rfl, b25⟩
    have B25 := b17.trans (b25.mono b17.size)
    have r25 := r17.keep (S := fun _ => False) (Gr.below b25) (fun h => h)
    have h25 := h.below B25
    have haw := atA_wr hlow win
    have has := atA_same a win
    obtain ⟨a1, a2, b1, b2, c1, c2, d1, d2, _, _⟩ := hlow
    refine ⟨_, _, rfl, _, r25.c0, _, r25.c2, ?_⟩
    rw [w_i64 (n := a.ms - a.sr) (by omega) (by omega)]
    refine ⟨fun h3 => done w25 150 h25 (Gr.below B25) (by rw [t1, if_pos h3]) (by omega), fun h3 => ⟨_, r25.c1, ?_⟩⟩
    rw [if_neg h3] at t1
    rw [w_i64 (n := a.mp - (atA a win).wr) (by omega) (by omega)]
    refine ⟨fun h4 => done w25 151 h25 (Gr.below B25) (by rw [t1, if_pos h4]) (by omega), fun h4 => ⟨_, r25.c2, r25.has 2 (by omega), ?_⟩⟩
    rw [if_neg h4] at t1
    rw [w_i64 (n := a.sr + n) (by omega) (by omega)]
    intro w30 hw30
    obtain ⟨r30, g30⟩ : Row5 w30 w7.heap.size 87 { a with sr := a.sr + n } ∧ Gr (fun k => k = w7.heap.size) w25 w30 := by rw [hw30]; exact r25.s2 _
    clear hw30
    refine ⟨r30.has 3 (by omega), ?_⟩
    rw [w_i64 (n := (atA a win).wr + k) (by omega) (by omega)]
    intro w31 hw31
    obtain ⟨r31, g31⟩ : Row5 w31 w7.heap.size 87 { a with sr := a.sr + n, wr := (atA a win).wr + k } ∧ Gr (fun k => k = w7.heap.size) w30 w31 := by rw [hw31]; exact r30.s3 _
    clear hw31
    refine ⟨r31.has 4 (by omega), ?_⟩
    intro w32 hw32
    have htk : takeA a win n k = { a with sr := a.sr + n, wr := (atA a win).wr + k, wi := (atA a win).wi } := by
      unfold takeA
      obtain ⟨e1, e2, e3⟩ := has
      rw [e3]
      have : ∀ c : Acc, c.ms = a.ms → c.mp = a.mp → ({ c with sr := a.sr + n, wr := c.wr + k } : Acc) = { a with sr := a.sr + n, wr := c.wr + k, wi := c.wi } := by
        intro c h1 h2; simp [h1, h2]
      exact this _ e1 e2
    obtain ⟨r32, g32⟩ : Row5 w32 w7.heap.size 87 (takeA a win n k) ∧ Gr (fun k => k = w7.heap.size) w31 w32 := by rw [hw32, htk]; exact r31.s4 _
    clear hw32
    have B32 : Below w7.heap.size w7 w32 := by
      have G := (g30.trans g31 (fun _ _ h => h)).trans g32 (fun _ _ h => h)
      exact B25.trans (G.toBelow B25.size (fun k hk => by omega))
    rintro _ rfl
    have B33 : Below w7.heap.size w7 w32.drew := below_draw B32 1
    have h33 : Rf w32.drew q s m fp := (h.below B32).drawn 1
    have r33 : Row5 w32.drew w7.heap.size 87 (takeA a win n k) := r32.drawn 1
    obtain ⟨b', hb', hbb, hhas, hown, hgr⟩ := h33.own.setTail enc6_len (by omega) i hil 1 (takeA a win n k).l (t, takeA a win n k) rfl (by rw [hmi]; rfl)
    rw [hb] at hb'; cases hb'
    refine ⟨_, rfl, s, h33.c, (takeA a win n k).ms, (takeA a win n k).mp, (takeA a win n k).sr, (takeA a win n k).wr, (takeA a win n k).wi, r33.at, by omega, by omega, b, hb, hhas, ?_⟩
    intro w42 hw42
    have hown' : OwnK enc6 6 127 0 w42 s (m.set i (t, takeA a win n k)) := by rw [hw42]; exact hown
    have hgr' : w32.drew.grownBy w42 s.blk := by rw [hw42]; exact hgr
    clear hw42 hown hgr
    have G42 : Gr (fun k => s.blk = some k) w32.drew w42 := Gr.row hgr' (fun b hb => hb)
    refine ⟨t1.symm, s, fp, ⟨G42.blk h33.cell (fun e => (h.bl q e).2 rfl), ?_, h.bl, h.fq, fun k hk => Nat.lt_of_lt_of_le (h33.lt k hk) G42.size⟩, (Gr.below B33 (S := fp)).trans G42 (fun i _ hi => (h.bl i hi).1), fun k hk => .inl hk⟩
    have e : takeM m t win n k = m.set i (t, takeA a win n k) := by
      unfold takeM; rw [if_pos t1, hga]; unfold put; rw [hlk]
    rw [e]; exact hown'
theorem C68 (h : Rf w q s m fp) (t : ByteArray) (hl : m.length ≤ 1000000) : Calls Try.prog 68 #[.pointer (some ⟨q, 0, none⟩), .string t] w (fun e w1 => ∃ (r0 : Int), ∃ (r1 : Int), ∃ (r2 : Int), ∃ (r3 : Int), ∃ (r4 : Int), ∃ (r5 : Bool), e = .returned (.tuple #[.agg #[.int .i64 r0, .int .i64 r1, .int .i64 r2, .int .i64 r3, .int .i64 r4], .bool r5]) ∧ (r0 = (getA m t).ms ∧ r1 = (getA m t).mp ∧ r2 = (getA m t).sr ∧ r3 = (getA m t).wr ∧ r4 = (getA m t).wi ∧ r5 = (look m t).isSome ∧ Below w.heap.size w w1)) := by
  refine F68_sound _ t (fun r0 r1 r2 r3 r4 r5 w1 => r0 = (getA m t).ms ∧ r1 = (getA m t).mp ∧ r2 = (getA m t).sr ∧ r3 = (getA m t).wr ∧ r4 = (getA m t).wi ∧ r5 = (look m t).isSome ∧ Below w.heap.size w w1) w ?_
  unfold F68
  have hn := h.len
  intro w3 hw3
  have r3 : Row5 w3 w.heap.size 87 .zero := by rw [hw3]; exact Row5.new w .zero 87
  have b3 : Below w.heap.size w w3 := by rw [hw3]; exact (Below.refl _ _).alloc (Nat.le_refl _) _
  clear hw3
  have h3 := h.below b3
  refine (C73 h3 t hl).mono ?_
  rintro _ w5 ⟨_, rfl, rfl, rfl⟩
  refine ⟨_, rfl, fun hk => ⟨r3.hass, ?_⟩, fun hk => ?_⟩
  · have hs := idx_neg.1 hk
    intro w6 hw6
    obtain ⟨r6, g6⟩ : Row5 w6 w.heap.size 87 .zero ∧ Gr (fun k => k = w.heap.size) w5 w6 := by rw [hw6]; exact r3.sets .zero
    clear hw6
    refine ⟨_, _, _, _, _, r6.at, ?_⟩
    rw [getA_none hs, hs]
    exact ⟨rfl, rfl, rfl, rfl, rfl, rfl, b3.trans (g6.toBelow b3.size (fun k hk => by omega))⟩
  · cases hlk : look m t with
    | none => exact absurd (idx_neg.2 (by rw [hlk]; rfl)) hk
    | some x =>
      obtain ⟨i, a⟩ := x
      have him := look_at hlk
      have hil : i < m.length := (List.getElem?_eq_some_iff.1 him).1
      have hidx : idx m t = (i : Int) := by unfold idx; rw [hlk]
      rw [hidx, getA_look hlk]
      obtain ⟨b, hb, hc⟩ := h3.acc hlk
      refine ⟨_, rfl, s, h3.c, by omega, by omega, b, hb, a.ms, a.mp, a.sr, a.wr, a.wi, hc, r3.hass, ?_⟩
      intro w6 hw6
      obtain ⟨r6, g6⟩ : Row5 w6 w.heap.size 87 a ∧ Gr (fun k => k = w.heap.size) w5 w6 := by rw [hw6]; exact r3.sets a
      clear hw6
      exact ⟨_, _, _, _, _, r6.at, rfl, rfl, rfl, rfl, rfl, rfl, b3.trans (g6.toBelow b3.size (fun k hk => by omega))⟩
theorem C70 (h : Rf w q s m fp) (t : ByteArray) (hl : m.length ≤ 1000000) : Calls Try.prog 70 #[.pointer (some ⟨q, 0, none⟩), .string t] w (fun e w1 => ∃ (r0 : Int), ∃ (r1 : Int), ∃ (r2 : Bool), e = .returned (.tuple #[.int .i64 r0, .int .i64 r1, .bool r2]) ∧ (r0 = (getA m t).ms ∧ r1 = (getA m t).mp ∧ r2 = (look m t).isSome ∧ Below w.heap.size w w1)) := by
  refine F70_sound _ t (fun r0 r1 r2 w1 => r0 = (getA m t).ms ∧ r1 = (getA m t).mp ∧ r2 = (look m t).isSome ∧ Below w.heap.size w w1) w ?_
  unfold F70
  refine (C68 h t hl).mono ?_
  rintro _ w9 ⟨_, _, _, _, _, _, rfl, rfl, rfl, rfl, rfl, rfl, rfl, b9⟩
  refine ⟨_, _, _, _, _, _, rfl, ?_⟩
  intro w10 hw10
  have r10 : Row5 w10 w9.heap.size 87 .zero := by rw [hw10]; exact Row5.new w9 .zero 87
  have b10 : Below w9.heap.size w9 w10 := by rw [hw10]; exact (Below.refl _ _).alloc (Nat.le_refl _) _
  clear hw10
  refine ⟨r10.hass, ?_⟩
  intro w11 hw11
  obtain ⟨r11, g11⟩ : Row5 w11 w9.heap.size 87 (getA m t) ∧ Gr (fun k => k = w9.heap.size) w10 w11 := by rw [hw11]; exact r10.sets (getA m t)
  clear hw11
  refine ⟨_, r11.c0, _, r11.c1, ?_⟩
  rintro _ ⟨mm, rfl⟩
  have B11 := b10.trans (g11.toBelow b10.size (fun k hk => by omega))
  exact ⟨rfl, rfl, rfl, below_draw (b9.trans (B11.mono b9.size)) mm⟩
theorem C71 (h : Rf w q s m fp) (hi : Inv m) (t : ByteArray) (n : Int) (hl : m.length ≤ 1000000) : Calls Try.prog 71 #[.pointer (some ⟨q, 0, none⟩), .string t, .int .i64 n] w (fun e w1 => ∃ (r0 : Int), ∃ (r1 : Int), e = .returned (.tuple #[.int .i64 r0, .int .i64 r1]) ∧ (r0 = (getA m t).ms - (getA m t).sr ∧ r1 = (getA m t).mp - (atA (getA m t) n).wr ∧ Below w.heap.size w w1)) := by
  refine F71_sound _ t n (fun r0 r1 w1 => r0 = (getA m t).ms - (getA m t).sr ∧ r1 = (getA m t).mp - (atA (getA m t) n).wr ∧ Below w.heap.size w w1) w ?_
  unfold F71
  refine (C68 h t hl).mono ?_
  rintro _ w10 ⟨_, _, _, _, _, _, rfl, rfl, rfl, rfl, rfl, rfl, rfl, b10⟩
  refine ⟨_, _, _, _, _, _, rfl, ?_⟩
  intro w11 hw11
  have r11 : Row5 w11 w10.heap.size 87 .zero := by rw [hw11]; exact Row5.new w10 .zero 87
  have b11 : Below w10.heap.size w10 w11 := by rw [hw11]; exact (Below.refl _ _).alloc (Nat.le_refl _) _
  clear hw11
  refine ⟨r11.hass, ?_⟩
  intro w12 hw12
  obtain ⟨r12, g12⟩ : Row5 w12 w10.heap.size 87 (getA m t) ∧ Gr (fun k => k = w10.heap.size) w11 w12 := by rw [hw12]; exact r11.sets (getA m t)
  clear hw12
  have B12 := b11.trans (g12.toBelow b11.size (fun k hk => by omega))
  have C12 := b10.trans (B12.mono b10.size)
  refine ⟨fun hs => ?_, fun hs => ?_⟩
  · rw [getA_none hs]
    refine ⟨rfl, ?_, C12⟩
    unfold atA; split <;> rfl
  · refine ⟨(getA m t).ms, (getA m t).mp, (getA m t).sr, (getA m t).wr, (getA m t).wi, r12.at, ?_⟩
    refine (C74 w12 (getA m t) n).mono ?_
    rintro _ w20 ⟨_, _, rfl, rfl, rfl, b20⟩
    have r20 := r12.keep (S := fun _ => False) (Gr.below b20) (fun h => h)
    refine ⟨_, _, rfl, _, r20.c0, _, r20.c2, _, r20.c1, ?_⟩
    rintro _ ⟨mm, rfl⟩
    have hlow := getA_low hi t
    have haw := atA_wr hlow n
    obtain ⟨a1, a2, b1, b2, c1, c2, d1, d2, _, _⟩ := hlow
    rw [w_i64 (by omega) (by omega), w_i64 (by omega) (by omega)]
    exact ⟨rfl, rfl, below_draw (C12.trans (b20.mono C12.size)) mm⟩
end
end Go.Proofs.Ythhcaaellhdkiaa
