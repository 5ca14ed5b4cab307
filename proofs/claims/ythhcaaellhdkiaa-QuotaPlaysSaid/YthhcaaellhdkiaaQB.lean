/- The book of package quota: what each call does. -/
import Derived.Test.YthhcaaellhdkiaaQA
import Derived.Test.YthhcaaellhdkiaaGQa
namespace Go.Proofs.Ythhcaaellhdkiaa
open Go Go.RowKit Go.Proofs.Ythhcaaellhdkiaa.SX
set_option linter.unusedVariables false

def atA (a : Acc) (n : Int) : Acc := if n > a.wi then { a with wr := 0, wi := n } else a
structure Acc.ok (a : Acc) : Prop where
  a1 : 1 ≤ a.ms
  a2 : a.ms ≤ 1000000
  b1 : 1 ≤ a.mp
  b2 : a.mp ≤ 1000000
  c1 : 0 ≤ a.sr
  c2 : a.sr ≤ a.ms
  d1 : 0 ≤ a.wr
  d2 : a.wr ≤ a.mp
  e1 : 0 ≤ a.wi
  e2 : a.wi ≤ 9223372036854775807
def Inv (m : Accs) : Prop := ∀ x ∈ m, x.2.ok
theorem inv_look {m : Accs} (h : Inv m) {t : ByteArray} {i : Nat} {a : Acc} (hl : look m t = some (i, a)) : a.ok := h (t, a) (List.mem_of_getElem? (look_at hl))
/-- an account, or nothing -/
structure Acc.low (a : Acc) : Prop where
  a1 : 0 ≤ a.ms
  a2 : a.ms ≤ 1000000
  b1 : 0 ≤ a.mp
  b2 : a.mp ≤ 1000000
  c1 : 0 ≤ a.sr
  c2 : a.sr ≤ a.ms
  d1 : 0 ≤ a.wr
  d2 : a.wr ≤ a.mp
  e1 : 0 ≤ a.wi
  e2 : a.wi ≤ 9223372036854775807
theorem getA_low {m : Accs} (h : Inv m) (t : ByteArray) : (getA m t).low := by
  unfold getA
  cases hl : look m t with
  | none => exact ⟨by decide, by decide, by decide, by decide, by decide, by decide, by decide, by decide, by decide, by decide⟩
  | some x =>
    obtain ⟨i, a⟩ := x
    have := inv_look h hl
    obtain ⟨a1, a2, b1, b2, c1, c2, d1, d2, e1, e2⟩ := this
    exact ⟨by simp; omega, a2, by simp; omega, b2, c1, c2, d1, d2, e1, e2⟩
theorem getA_ok {m : Accs} (h : Inv m) (t : ByteArray) (hk : (look m t).isSome = true) : (getA m t).ok := by
  unfold getA
  cases hl : look m t with
  | none => rw [hl] at hk; cases hk
  | some x => exact inv_look h (i := x.1) (a := x.2) hl
theorem getA_none {m : Accs} {t : ByteArray} (hk : (look m t).isSome = false) : getA m t = .zero := by
  unfold getA
  cases hl : look m t with
  | none => rfl
  | some x => rw [hl] at hk; cases hk

section
variable {w w' : World} {q b : Nat} {m : Accs} {t : ByteArray} {a : Acc}
theorem C57 (w : World) (a : Acc) (n : Int) : Calls Try.prog 57 #[a.v, .int .i64 n] w (fun e w1 => ∃ (r0 : Int), ∃ (r1 : Int), ∃ (r2 : Int), ∃ (r3 : Int), ∃ (r4 : Int), e = .returned (.agg #[.int .i64 r0, .int .i64 r1, .int .i64 r2, .int .i64 r3, .int .i64 r4] : Value) ∧ (r0 = (atA a n).ms ∧ r1 = (atA a n).mp ∧ r2 = (atA a n).sr ∧ r3 = (atA a n).wr ∧ r4 = (atA a n).wi ∧ Below w.heap.size w w1)) := by
  refine F57_sound a.ms a.mp a.sr a.wr a.wi n (fun r0 r1 r2 r3 r4 w1 => r0 = (atA a n).ms ∧ r1 = (atA a n).mp ∧ r2 = (atA a n).sr ∧ r3 = (atA a n).wr ∧ r4 = (atA a n).wi ∧ Below w.heap.size w w1) w ?_
  unfold F57
  rintro _ rfl
  rintro _ rfl
  have r7 := Row5.new w a 87
  have g7 : Gr (fun _ => False) w (w.alloc (.cells a.row 87)) := gr_alloc _ _ _
  have z7 : (w.alloc (.cells a.row 87)).heap.size = w.heap.size + 1 := by simp
  generalize w.alloc (.cells a.row 87) = w7 at r7 g7 z7 ⊢
  have r8 := Row5.new w7 .zero 87
  have g8 : Gr (fun _ => False) w7 (w7.alloc (.cells Acc.zero.row 87)) := gr_alloc _ _ _
  have e8 : w7.alloc (.cells #[.int .i64 0, .int .i64 0, .int .i64 0, .int .i64 0, .int .i64 0] 87) = w7.alloc (.cells Acc.zero.row 87) := rfl
  rw [e8]
  generalize w7.alloc (.cells Acc.zero.row 87) = w8 at r8 g8 ⊢
  have r78 := r7.keep g8 (fun h => h)
  have G8 := g7.trans g8 (fun _ _ h => h)
  have fin : ∀ w12, Row5 w12 w.heap.size 87 (atA a n) → Row5 w12 w7.heap.size 87 .zero → Gr (fun k => k = w.heap.size) w w12 → F57_j1 (fun r0 r1 r2 r3 r4 w1 => r0 = (atA a n).ms ∧ r1 = (atA a n).mp ∧ r2 = (atA a n).sr ∧ r3 = (atA a n).wr ∧ r4 = (atA a n).wi ∧ Below w.heap.size w w1) w w7 w12 := by
    intro w12 h1 h2 hg
    unfold F57_j1
    obtain ⟨r18, g18⟩ := h2.sets (atA a n)
    refine ⟨_, _, _, _, _, h1.at, h2.hass, ?_⟩
    rintro _ rfl
    refine ⟨_, _, _, _, _, r18.at, rfl, rfl, rfl, rfl, rfl, ?_⟩
    exact (hg.mono (T := fun k => w.heap.size ≤ k) (fun k hk => by omega)).trans g18 (fun i hi hk => by omega) |>.toBelow (Nat.le_refl _) (fun k hk => hk)
  refine ⟨_, r78.c4, fun hgt => ?_, fun hle => ?_⟩
  · obtain ⟨r10, g10⟩ := r78.s4 n
    refine ⟨r78.has 4 (by omega), ?_⟩
    rintro _ rfl
    obtain ⟨r11, g11⟩ := r10.s3 0
    refine ⟨r10.has 3 (by omega), ?_⟩
    rintro _ rfl
    refine fin _ ?_ ?_ ?_
    · unfold atA; rw [if_pos hgt]; exact r11
    · exact (r8.keep g10 (by show ¬ _ = _; omega)).keep g11 (by show ¬ _ = _; omega)
    · exact ((G8.mono (fun _ h => h.elim)).trans g10 (fun _ _ h => h)).trans g11 (fun _ _ h => h)
  · refine fin _ ?_ r8 (G8.mono (fun _ h => h.elim))
    unfold atA; rw [if_neg hle]; exact r78
theorem C63 (w : World) (n : Int) : Calls Try.prog 63 #[.int .i64 n] w (fun e w1 => ∃ (r0 : Bool), e = .returned (.bool r0 : Value) ∧ (r0 = decide (1 ≤ n ∧ n ≤ 1000000) ∧ w1 = w)) := by
  refine F63_sound n (fun r w1 => r = decide (1 ≤ n ∧ n ≤ 1000000) ∧ w1 = w) w ?_
  unfold F63 F63_j1
  refine ⟨fun h => ⟨?_, rfl⟩, fun h => ⟨?_, rfl⟩⟩
  · by_cases h2 : n ≤ 1000000 <;> simp [h2] <;> omega
  · simp; omega
theorem C28 (w : World) : Calls Try.prog 28 #[] w (fun e w1 => ∃ (r : Option Addr), e = .returned (.pointer r : Value) ∧ (∃ q b, r = some ⟨q, 0, none⟩ ∧ Bk w1 q b [] ∧ w.heap.size ≤ q ∧ w.heap.size ≤ b ∧ Below w.heap.size w w1)) := by
  refine F28_sound (fun r w1 => ∃ q b, r = some ⟨q, 0, none⟩ ∧ Bk w1 q b [] ∧ w.heap.size ≤ q ∧ w.heap.size ≤ b ∧ Below w.heap.size w w1) w ?_
  unfold F28
  rintro _ rfl
  rintro _ rfl
  have b1 : Below w.heap.size w (w.alloc (.map #[] 0)) := (Below.refl _ _).alloc (Nat.le_refl _) _
  have hz : (w.alloc (.map #[] 0)).heap.size = w.heap.size + 1 := by simp
  have h1 := heap_alloc_new w (.map #[] 0)
  generalize w.alloc (.map #[] 0) = w1 at b1 hz h1 ⊢
  refine ⟨w1.heap.size, w.heap.size, rfl, ⟨heap_alloc_new w1 _, #[], 0, ?_, rfl⟩, by omega, by omega, b1.trans (((Below.refl _ _).alloc (Nat.le_refl _) _).mono b1.size)⟩
  have b2 : Below w1.heap.size w1 (w1.alloc (.cells #[.map (some w.heap.size)] 107)) := (Below.refl _ _).alloc (Nat.le_refl _) _
  rw [b2.block _ (by omega)]; exact h1

theorem C30 (h : Bk w q b m) (hi : Inv m) (t : ByteArray) (n : Int) : Calls Try.prog 30 #[.pointer (some ⟨q, 0, none⟩), .string t, .int .i64 n] w (fun e w1 => ∃ (r0 : Int), ∃ (r1 : Int), e = .returned (.tuple #[.int .i64 r0, .int .i64 r1]) ∧ (r0 = (getA m t).ms - (getA m t).sr ∧ r1 = (getA m t).mp - (atA (getA m t) n).wr ∧ Below w.heap.size w w1)) := by
  refine F30_sound _ t n (fun r0 r1 w1 => r0 = (getA m t).ms - (getA m t).sr ∧ r1 = (getA m t).mp - (atA (getA m t) n).wr ∧ Below w.heap.size w w1) w ?_
  unfold F30
  refine ⟨_, rfl, _, h.c, (getA m t).ms, (getA m t).mp, (getA m t).sr, (getA m t).wr, (getA m t).wi, h.look1 t, ?_⟩
  refine (C57 w (getA m t) n).mono ?_
  rintro _ w16 ⟨_, _, _, _, _, rfl, rfl, rfl, rfl, rfl, rfl, b16⟩
  refine ⟨_, _, _, _, _, rfl, ?_⟩
  rintro _ rfl
  have r17 := Row5.new w16 .zero 87
  have b17 : Below w16.heap.size w16 (w16.alloc (.cells Acc.zero.row 87)) := (Below.refl _ _).alloc (Nat.le_refl _) _
  have e17 : w16.alloc (.cells #[.int .i64 0, .int .i64 0, .int .i64 0, .int .i64 0, .int .i64 0] 87) = w16.alloc (.cells Acc.zero.row 87) := rfl
  rw [e17]
  generalize w16.alloc (.cells Acc.zero.row 87) = w17 at r17 b17 ⊢
  refine ⟨r17.hass, ?_⟩
  intro w18 hw18
  obtain ⟨r18, g18⟩ : Row5 w18 w16.heap.size 87 (atA (getA m t) n) ∧ Gr (fun k => k = w16.heap.size) w17 w18 := by rw [hw18]; exact r17.sets (atA (getA m t) n)
  clear hw18
  have b18 := b17.trans (g18.toBelow b17.size (fun k hk => by omega))
  refine ⟨_, r18.c0, _, r18.c2, _, r18.c1, _, r18.c3, ?_⟩
  rintro _ ⟨mm, rfl⟩
  have hlow := getA_low hi t
  have e1 : (atA (getA m t) n).ms = (getA m t).ms ∧ (atA (getA m t) n).sr = (getA m t).sr ∧ (atA (getA m t) n).mp = (getA m t).mp ∧ 0 ≤ (atA (getA m t) n).wr ∧ (atA (getA m t) n).wr ≤ (getA m t).mp := by
    have := hlow.d1; have := hlow.d2; have := hlow.b1
    unfold atA; split
    · refine ⟨rfl, rfl, rfl, by simp, by simp; omega⟩
    · exact ⟨rfl, rfl, rfl, hlow.d1, hlow.d2⟩
  obtain ⟨e2, e3, e4, e5, e6⟩ := e1
  rw [e2, e3, e4]
  obtain ⟨a1, a2, b1, b2, c1, c2, d1, d2, _, _⟩ := hlow
  rw [w_i64 (by omega) (by omega), w_i64 (by omega) (by omega)]
  exact ⟨rfl, rfl, below_draw (b16.trans (b18.mono b16.size)) mm⟩

/-- what Put answers -/
def putC (m : Accs) (t : ByteArray) (a : Acc) : Int :=
  if ¬ (1 ≤ a.ms ∧ a.ms ≤ 1000000 ∧ 1 ≤ a.mp ∧ a.mp ≤ 1000000) then 152
  else if a.sr < 0 ∨ a.sr > a.ms ∨ a.wr < 0 ∨ a.wr > a.mp ∨ a.wi < 0 then 1
  else if (look m t).isSome then 163 else 0
def putM (m : Accs) (t : ByteArray) (a : Acc) : Accs := if putC m t a = 0 then m ++ [(t, a)] else m
theorem neq87_zero (w : World) (x y : Operand) : (do eqGuard .neq 87 x y Acc.zero.v (.agg #[.int .i64 0, .int .i64 0, .int .i64 0, .int .i64 0, .int .i64 0]); binOp .neq 87 Acc.zero.v (.agg #[.int .i64 0, .int .i64 0, .int .i64 0, .int .i64 0, .int .i64 0]) : Sem Value).run Try.prog w = .ok (.bool false) w := by
  kernel_rfl
theorem neq87_one (w : World) (x y : Operand) (k : Nat) (b c d e : Int) : (do eqGuard .neq 87 x y (.agg #[.int .i64 (Int.ofNat (k + 1)), .int .i64 b, .int .i64 c, .int .i64 d, .int .i64 e]) (.agg #[.int .i64 0, .int .i64 0, .int .i64 0, .int .i64 0, .int .i64 0]); binOp .neq 87 (.agg #[.int .i64 (Int.ofNat (k + 1)), .int .i64 b, .int .i64 c, .int .i64 d, .int .i64 e]) (.agg #[.int .i64 0, .int .i64 0, .int .i64 0, .int .i64 0, .int .i64 0]) : Sem Value).run Try.prog w = .ok (.bool true) w := by
  kernel_rfl
theorem neq87 (hi : Inv m) (w : World) (x y : Operand) (t : ByteArray) : (do eqGuard .neq 87 x y (getA m t).v (.agg #[.int .i64 0, .int .i64 0, .int .i64 0, .int .i64 0, .int .i64 0]); binOp .neq 87 (getA m t).v (.agg #[.int .i64 0, .int .i64 0, .int .i64 0, .int .i64 0, .int .i64 0]) : Sem Value).run Try.prog w = .ok (.bool (look m t).isSome) w := by
  cases hk : (look m t).isSome with
  | false => rw [getA_none hk]; exact neq87_zero w x y
  | true =>
    have hok := getA_ok hi t hk
    have h1 := hok.a1
    generalize getA m t = a at h1 ⊢
    obtain ⟨ms, b, c, d, e⟩ := a
    obtain ⟨k, rfl⟩ : ∃ k : Nat, ms = Int.ofNat (k + 1) := ⟨(ms - 1).toNat, by simp at h1 ⊢; omega⟩
    exact neq87_one w x y k b c d e
end
end Go.Proofs.Ythhcaaellhdkiaa
