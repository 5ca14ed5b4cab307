/- The book of package quota: Put, Set, Take, Drop, Get, Limits. -/
import Derived.Test.YthhcaaellhdkiaaQB
namespace Go.Proofs.Ythhcaaellhdkiaa
open Go Go.RowKit Go.Proofs.Ythhcaaellhdkiaa.SX
set_option linter.unusedVariables false

theorem Bk.drawn {w : World} {q b : Nat} {m : Accs} (h : Bk w q b m) (k : Nat) : Bk (w.drewN k) q b m := h.keep (S := fun _ => False) (gr_drew w k) (fun h => h) (fun h => h)
theorem Row5.drawn {w : World} {g e : Nat} {a : Acc} (h : Row5 w g e a) (k : Nat) : Row5 (w.drewN k) g e a := h
section
variable {w w' : World} {q b : Nat} {m : Accs} {t : ByteArray} {a : Acc}
theorem C48 (h : Bk w q b m) (hi : Inv m) (t : ByteArray) (a : Acc) : Calls Try.prog 48 #[.pointer (some ⟨q, 0, none⟩), .string t, a.v] w (fun e w1 => ∃ (r0 : Int), e = .returned (.int .i64 r0 : Value) ∧ (r0 = putC m t a ∧ Bk w1 q b (putM m t a) ∧ Gr (fun k => k = b) w w1)) := by
  refine F48_sound _ t a.ms a.mp a.sr a.wr a.wi (fun r0 w1 => r0 = putC m t a ∧ Bk w1 q b (putM m t a) ∧ Gr (fun k => k = b) w w1) w ?_
  unfold F48
  have hlt := h.lt
  intro w8 hw8
  have r8 : Row5 w8 w.heap.size 87 a := by rw [hw8]; exact Row5.new w a 87
  have g8 : ∀ S, Gr S w w8 := by intro S; rw [hw8]; exact gr_alloc _ _ _
  clear hw8
  have h8 := h.keep (g8 (fun _ => False)) (fun h => h) (fun h => h)
  have done : ∀ c : Int, putC m t a = c → c ≠ 0 → c = putC m t a ∧ Bk w8 q b (putM m t a) ∧ Gr (fun k => k = b) w w8 := by
    intro c hc h0
    refine ⟨hc.symm, ?_, g8 _⟩
    unfold putM; rw [if_neg (by omega)]; exact h8
  refine ⟨_, r8.c0, (C63 w8 a.ms).mono ?_⟩
  rintro _ w11 ⟨_, rfl, rfl, rfl⟩
  refine ⟨_, rfl, fun hb => ?_, fun hb1 => ?_⟩
  · have := of_decide_eq_false hb
    exact done 152 (by unfold putC; rw [if_pos (by omega)]) (by omega)
  refine ⟨_, r8.c1, (C63 w11 a.mp).mono ?_⟩
  rintro _ w14 ⟨_, rfl, rfl, rfl⟩
  refine ⟨_, rfl, fun hb => ?_, fun hb2 => ?_⟩
  · have := of_decide_eq_false hb
    exact done 152 (by unfold putC; rw [if_pos (by omega)]) (by omega)
  have l1 := of_decide_eq_true hb1
  have l2 := of_decide_eq_true hb2
  have hp : putC m t a = if a.sr < 0 ∨ a.sr > a.ms ∨ a.wr < 0 ∨ a.wr > a.mp ∨ a.wi < 0 then 1 else if (look m t).isSome then 163 else 0 := by
    unfold putC; rw [if_neg (by omega)]
  have bad : (a.sr < 0 ∨ a.sr > a.ms ∨ a.wr < 0 ∨ a.wr > a.mp ∨ a.wi < 0) → 1 = putC m t a ∧ Bk w14 q b (putM m t a) ∧ Gr (fun k => k = b) w w14 := fun hbad => done 1 (by rw [hp, if_pos hbad]) (by omega)
  refine ⟨_, r8.c2, fun h1 => bad (by omega), fun h1 => ⟨_, r8.c2, _, r8.c0, fun h2 => bad (by omega), fun h2 => ⟨_, r8.c3, fun h3 => bad (by omega), fun h3 => ⟨_, r8.c3, _, r8.c1, fun h4 => bad (by omega), fun h4 => ⟨_, r8.c4, fun h5 => bad (by omega), fun h5 => ?_⟩⟩⟩⟩⟩
  rw [if_neg (by omega)] at hp
  refine ⟨_, rfl, _, h8.c, (getA m t).ms, (getA m t).mp, (getA m t).sr, (getA m t).wr, (getA m t).wi, h8.look1 t, _, neq87 hi w14 _ _ t, fun hk => ?_, fun hk => ?_⟩
  · exact done 163 (by rw [hp, if_pos hk]) (by omega)
  · have hpc : putC m t a = 0 := by rw [hp, hk]; rfl
    rintro _ rfl
    have hd : Bk w14.drew q b m := h8.drawn 1
    have rd : Row5 w14.drew w.heap.size 87 a := r8.drawn 1
    obtain ⟨w38, hrun, h38, g38⟩ := hd.update t a
    refine ⟨_, rfl, _, hd.c, a.ms, a.mp, a.sr, a.wr, a.wi, rd.at, w38, hrun, hpc.symm, ?_, (gr_drewN (g8 _) 1).trans g38 (fun _ _ h => h)⟩
    have e : put m t a = putM m t a := by
      unfold put putM
      rw [if_pos hpc]
      cases hl : look m t with
      | none => rfl
      | some x => rw [hl] at hk; cases hk
    rw [← e]; exact h38
theorem C29 (h : Bk w q b m) (hi : Inv m) (t : ByteArray) (n k : Int) : Calls Try.prog 29 #[.pointer (some ⟨q, 0, none⟩), .string t, .int .i64 n, .int .i64 k] w (fun e w1 => ∃ (r0 : Int), e = .returned (.int .i64 r0 : Value) ∧ (r0 = putC m t ⟨n, k, 0, 0, 0⟩ ∧ Bk w1 q b (putM m t ⟨n, k, 0, 0, 0⟩) ∧ Gr (fun k => k = b) w w1)) := by
  refine F29_sound _ t n k (fun r0 w1 => r0 = putC m t ⟨n, k, 0, 0, 0⟩ ∧ Bk w1 q b (putM m t ⟨n, k, 0, 0, 0⟩) ∧ Gr (fun k => k = b) w w1) w ?_
  unfold F29
  exact C48 h hi t ⟨n, k, 0, 0, 0⟩

/-- what Take answers -/
def takeC (m : Accs) (t : ByteArray) (win n k : Int) : Int :=
  if (look m t).isSome = false then 171
  else if n < 0 ∨ k < 0 then 1
  else if n > (getA m t).ms - (getA m t).sr then 150
  else if k > (getA m t).mp - (atA (getA m t) win).wr then 151 else 0
def takeA (a : Acc) (win n k : Int) : Acc := { atA a win with sr := (atA a win).sr + n, wr := (atA a win).wr + k }
def takeM (m : Accs) (t : ByteArray) (win n k : Int) : Accs := if takeC m t win n k = 0 then put m t (takeA (getA m t) win n k) else m
theorem atA_same (a : Acc) (n : Int) : (atA a n).ms = a.ms ∧ (atA a n).mp = a.mp ∧ (atA a n).sr = a.sr := by
  unfold atA; split <;> exact ⟨rfl, rfl, rfl⟩
theorem atA_wr {a : Acc} (h : a.low) (n : Int) : 0 ≤ (atA a n).wr ∧ (atA a n).wr ≤ a.mp := by
  have := h.b1
  unfold atA; split
  · exact ⟨by simp, by simp; omega⟩
  · exact ⟨h.d1, h.d2⟩
theorem C31 (h : Bk w q b m) (hi : Inv m) (t : ByteArray) (win n k : Int) : Calls Try.prog 31 #[.pointer (some ⟨q, 0, none⟩), .string t, .int .i64 win, .int .i64 n, .int .i64 k] w (fun e w1 => ∃ (r0 : Int), e = .returned (.int .i64 r0 : Value) ∧ (r0 = takeC m t win n k ∧ Bk w1 q b (takeM m t win n k) ∧ Gr (fun k => k = b) w w1)) := by
  refine F31_sound _ t win n k (fun r0 w1 => r0 = takeC m t win n k ∧ Bk w1 q b (takeM m t win n k) ∧ Gr (fun k => k = b) w w1) w ?_
  unfold F31
  have hlt := h.lt
  have hlow := getA_low hi t
  refine ⟨_, rfl, _, h.c, (getA m t).ms, (getA m t).mp, (getA m t).sr, (getA m t).wr, (getA m t).wi, _, h.look2 t, ?_⟩
  intro w14 hw14
  have r14 : Row5 w14 w.heap.size 87 .zero := by rw [hw14]; exact Row5.new w .zero 87
  have g14 : ∀ S, Gr S w w14 := by intro S; rw [hw14]; exact gr_alloc _ _ _
  clear hw14
  refine ⟨r14.hass, ?_⟩
  intro w15 hw15
  obtain ⟨r15, g15⟩ : Row5 w15 w.heap.size 87 (getA m t) ∧ Gr (fun k => k = w.heap.size) w14 w15 := by rw [hw15]; exact r14.sets (getA m t)
  clear hw15
  have G15 : Gr (fun k => k = w.heap.size) w w15 := (g14 _).trans g15 (fun _ _ h => h)
  have h15 := h.keep G15 (by omega) (by omega)
  refine (C30 h15 hi t win).mono ?_
  rintro _ w18 ⟨_, _, rfl, rfl, rfl, b18⟩
  have G18 : Gr (fun k => k = w.heap.size) w w18 := G15.trans (Gr.below b18 (S := fun _ => False)) (fun _ _ h => h.elim)
  have h18 := h15.keep (S := fun _ => False) (Gr.below b18) (fun h => h) (fun h => h)
  have r18 := r15.keep (S := fun _ => False) (Gr.below b18) (fun h => h)
  have toB : ∀ {wq : World}, Gr (fun k => k = w.heap.size) w wq → Gr (fun k => k = b) w wq := fun hg => ⟨hg.os, hg.tape, hg.output, hg.size, fun k hk _ => hg.block k hk (by omega)⟩
  have done : ∀ c : Int, takeC m t win n k = c → c ≠ 0 → c = takeC m t win n k ∧ Bk w18 q b (takeM m t win n k) ∧ Gr (fun k => k = b) w w18 := by
    intro c hc h0
    refine ⟨hc.symm, ?_, toB G18⟩
    unfold takeM; rw [if_neg (by omega)]; exact h18
  refine ⟨_, _, rfl, fun hk => done 171 (by unfold takeC; rw [if_pos hk]) (by omega), fun hk => ?_⟩
  have t1 : takeC m t win n k = if n < 0 ∨ k < 0 then 1 else if n > (getA m t).ms - (getA m t).sr then 150 else if k > (getA m t).mp - (atA (getA m t) win).wr then 151 else 0 := by
    unfold takeC; rw [hk]; rfl
  refine ⟨fun h1 => done 1 (by rw [t1, if_pos (by omega)]) (by omega), fun h1 => ⟨fun h2 => done 1 (by rw [t1, if_pos (by omega)]) (by omega), fun h2 => ?_⟩⟩
  rw [if_neg (by omega)] at t1
  refine ⟨fun h3 => done 150 (by rw [t1, if_pos h3]) (by omega), fun h3 => ?_⟩
  rw [if_neg h3] at t1
  refine ⟨fun h4 => done 151 (by rw [t1, if_pos h4]) (by omega), fun h4 => ?_⟩
  rw [if_neg h4] at t1
  have haw := atA_wr hlow win
  have has := atA_same (getA m t) win
  refine ⟨(getA m t).ms, (getA m t).mp, (getA m t).sr, (getA m t).wr, (getA m t).wi, r18.at, ?_⟩
  refine (C57 w18 (getA m t) win).mono ?_
  rintro _ w29 ⟨_, _, _, _, _, rfl, rfl, rfl, rfl, rfl, rfl, b29⟩
  have G29 : Gr (fun k => k = w.heap.size) w w29 := G18.trans (Gr.below b29 (S := fun _ => False)) (fun _ _ h => h.elim)
  have h29 := h18.keep (S := fun _ => False) (Gr.below b29) (fun h => h) (fun h => h)
  have r29 := r18.keep (S := fun _ => False) (Gr.below b29) (fun h => h)
  refine ⟨_, _, _, _, _, rfl, r29.hass, ?_⟩
  intro w30 hw30
  obtain ⟨r30, g30⟩ : Row5 w30 w.heap.size 87 (atA (getA m t) win) ∧ Gr (fun k => k = w.heap.size) w29 w30 := by rw [hw30]; exact r29.sets (atA (getA m t) win)
  clear hw30
  refine ⟨_, r30.c2, r30.has 2 (by omega), ?_⟩
  obtain ⟨a1, a2, b1, b2, c1, c2, d1, d2, _, _⟩ := hlow
  rw [w_i64 (n := (atA (getA m t) win).sr + n) (by omega) (by omega)]
  intro w32 hw32
  obtain ⟨r32, g32⟩ : Row5 w32 w.heap.size 87 { atA (getA m t) win with sr := (atA (getA m t) win).sr + n } ∧ Gr (fun k => k = w.heap.size) w30 w32 := by rw [hw32]; exact r30.s2 _
  clear hw32
  refine ⟨_, r32.c3, r32.has 3 (by omega), ?_⟩
  rw [w_i64 (n := _ + k) (by simp only; omega) (by simp only; omega)]
  intro w34 hw34
  obtain ⟨r34, g34⟩ : Row5 w34 w.heap.size 87 (takeA (getA m t) win n k) ∧ Gr (fun k => k = w.heap.size) w32 w34 := by rw [hw34]; exact r32.s3 _
  clear hw34
  have G34 : Gr (fun k => k = w.heap.size) w w34 := ((G29.trans g30 (fun _ _ h => h)).trans g32 (fun _ _ h => h)).trans g34 (fun _ _ h => h)
  have h34 := h.keep G34 (by omega) (by omega)
  rintro _ rfl
  have h35 : Bk w34.drew q b m := h34.drawn 1
  have r35 : Row5 w34.drew w.heap.size 87 (takeA (getA m t) win n k) := r34.drawn 1
  obtain ⟨w43, hrun, h43, g43⟩ := h35.update t (takeA (getA m t) win n k)
  refine ⟨_, rfl, _, h35.c, (takeA (getA m t) win n k).ms, (takeA (getA m t) win n k).mp, (takeA (getA m t) win n k).sr, (takeA (getA m t) win n k).wr, (takeA (getA m t) win n k).wi, r35.at, w43, hrun, t1.symm, ?_, (gr_drewN (toB G34) 1).trans g43 (fun _ _ h => h)⟩
  unfold takeM; rw [if_pos t1]; exact h43
theorem C47 (h : Bk w q b m) (t : ByteArray) : Calls Try.prog 47 #[.pointer (some ⟨q, 0, none⟩), .string t] w (fun e w1 => ∃ (r0 : Bool), e = .returned (.bool r0 : Value) ∧ (r0 = (look m t).isSome ∧ Bk w1 q b (del m t) ∧ Gr (fun k => k = b) w w1)) := by
  refine F47_sound _ t (fun r0 w1 => r0 = (look m t).isSome ∧ Bk w1 q b (del m t) ∧ Gr (fun k => k = b) w w1) w ?_
  unfold F47
  have hlt := h.lt
  refine ⟨_, rfl, _, h.c, (getA m t).ms, (getA m t).mp, (getA m t).sr, (getA m t).wr, (getA m t).wi, _, h.look2 t, ?_⟩
  intro w14 hw14
  have r14 : Row5 w14 w.heap.size 87 .zero := by rw [hw14]; exact Row5.new w .zero 87
  have g14 : ∀ S, Gr S w w14 := by intro S; rw [hw14]; exact gr_alloc _ _ _
  clear hw14
  refine ⟨r14.hass, ?_⟩
  intro w15 hw15
  obtain ⟨r15, g15⟩ : Row5 w15 w.heap.size 87 (getA m t) ∧ Gr (fun k => k = w.heap.size) w14 w15 := by rw [hw15]; exact r14.sets (getA m t)
  clear hw15
  have G15 : Gr (fun k => k = w.heap.size) w w15 := (g14 _).trans g15 (fun _ _ h => h)
  have h15 := h.keep G15 (by omega) (by omega)
  obtain ⟨w16, hrun, h16, g16⟩ := h15.delete t
  exact ⟨_, rfl, _, h15.c, _, w16, hrun, rfl, h16, (⟨G15.os, G15.tape, G15.output, G15.size, fun k hk _ => G15.block k hk (by omega)⟩ : Gr (fun k => k = b) w w15).trans g16 (fun _ _ h => h)⟩
theorem C49 (h : Bk w q b m) (t : ByteArray) : Calls Try.prog 49 #[.pointer (some ⟨q, 0, none⟩), .string t] w (fun e w1 => ∃ (r0 : Int), ∃ (r1 : Int), ∃ (r2 : Int), ∃ (r3 : Int), ∃ (r4 : Int), ∃ (r5 : Bool), e = .returned (.tuple #[.agg #[.int .i64 r0, .int .i64 r1, .int .i64 r2, .int .i64 r3, .int .i64 r4], .bool r5]) ∧ (r0 = (getA m t).ms ∧ r1 = (getA m t).mp ∧ r2 = (getA m t).sr ∧ r3 = (getA m t).wr ∧ r4 = (getA m t).wi ∧ r5 = (look m t).isSome ∧ Below w.heap.size w w1)) := by
  refine F49_sound _ t (fun r0 r1 r2 r3 r4 r5 w1 => r0 = (getA m t).ms ∧ r1 = (getA m t).mp ∧ r2 = (getA m t).sr ∧ r3 = (getA m t).wr ∧ r4 = (getA m t).wi ∧ r5 = (look m t).isSome ∧ Below w.heap.size w w1) w ?_
  unfold F49
  have hlt := h.lt
  intro w3 hw3
  have r3 : Row5 w3 w.heap.size 87 .zero := by rw [hw3]; exact Row5.new w .zero 87
  have b3 : Below w.heap.size w w3 := by rw [hw3]; exact (Below.refl _ _).alloc (Nat.le_refl _) _
  have z3 : w3.heap.size = w.heap.size + 1 := by rw [hw3]; simp
  clear hw3
  have h3 := h.keep (S := fun _ => False) (Gr.below b3) (fun h => h) (fun h => h)
  refine ⟨_, rfl, _, h3.c, (getA m t).ms, (getA m t).mp, (getA m t).sr, (getA m t).wr, (getA m t).wi, _, h3.look2 t, ?_⟩
  intro w12 hw12
  have r12 : Row5 w12 w3.heap.size 87 .zero := by rw [hw12]; exact Row5.new w3 .zero 87
  have b12 : Below w3.heap.size w3 w12 := by rw [hw12]; exact (Below.refl _ _).alloc (Nat.le_refl _) _
  clear hw12
  have r3' := r3.keep (S := fun _ => False) (Gr.below b12) (fun h => h)
  refine ⟨r12.hass, ?_⟩
  intro w13 hw13
  obtain ⟨r13, g13⟩ : Row5 w13 w3.heap.size 87 (getA m t) ∧ Gr (fun k => k = w3.heap.size) w12 w13 := by rw [hw13]; exact r12.sets (getA m t)
  clear hw13
  have r3'' := r3'.keep g13 (by omega)
  refine ⟨(getA m t).ms, (getA m t).mp, (getA m t).sr, (getA m t).wr, (getA m t).wi, r13.at, r3''.hass, ?_⟩
  intro w19 hw19
  obtain ⟨r19, g19⟩ : Row5 w19 w.heap.size 87 (getA m t) ∧ Gr (fun k => k = w.heap.size) w13 w19 := by rw [hw19]; exact r3''.sets (getA m t)
  clear hw19
  refine ⟨(getA m t).ms, (getA m t).mp, (getA m t).sr, (getA m t).wr, (getA m t).wi, r19.at, rfl, rfl, rfl, rfl, rfl, rfl, ?_⟩
  have B12 := b3.trans (b12.mono b3.size)
  have B13 := B12.trans (g13.toBelow B12.size (fun k hk => by omega))
  exact B13.trans (g19.toBelow B13.size (fun k hk => by omega))
theorem C69 (h : Bk w q b m) (t : ByteArray) : Calls Try.prog 69 #[.pointer (some ⟨q, 0, none⟩), .string t] w (fun e w1 => ∃ (r0 : Int), ∃ (r1 : Int), ∃ (r2 : Bool), e = .returned (.tuple #[.int .i64 r0, .int .i64 r1, .bool r2]) ∧ (r0 = (getA m t).ms ∧ r1 = (getA m t).mp ∧ r2 = (look m t).isSome ∧ Below w.heap.size w w1)) := by
  refine F69_sound _ t (fun r0 r1 r2 w1 => r0 = (getA m t).ms ∧ r1 = (getA m t).mp ∧ r2 = (look m t).isSome ∧ Below w.heap.size w w1) w ?_
  unfold F69
  refine ⟨_, rfl, _, h.c, (getA m t).ms, (getA m t).mp, (getA m t).sr, (getA m t).wr, (getA m t).wi, _, h.look2 t, ?_⟩
  intro w11 hw11
  have r11 : Row5 w11 w.heap.size 87 .zero := by rw [hw11]; exact Row5.new w .zero 87
  have b11 : Below w.heap.size w w11 := by rw [hw11]; exact (Below.refl _ _).alloc (Nat.le_refl _) _
  clear hw11
  refine ⟨r11.hass, ?_⟩
  intro w12 hw12
  obtain ⟨r12, g12⟩ : Row5 w12 w.heap.size 87 (getA m t) ∧ Gr (fun k => k = w.heap.size) w11 w12 := by rw [hw12]; exact r11.sets (getA m t)
  clear hw12
  refine ⟨_, r12.c0, _, r12.c1, ?_⟩
  rintro _ ⟨mm, rfl⟩
  exact ⟨rfl, rfl, rfl, below_draw (b11.trans (g12.toBelow b11.size (fun k hk => by omega))) mm⟩
end
end Go.Proofs.Ythhcaaellhdkiaa
