/- Writers and readers of one's own; the document's examples. -/
import Derived.Test.YthhcaaellhdkiaaCH
import Derived.Lib.Bytes
namespace Go.Proofs.Ythhcaaellhdkiaa
open Go Go.RowKit Go.Proofs.Ythhcaaellhdkiaa.SX
set_option linter.unusedVariables false

theorem below_draw {B : Nat} {w w' : World} (h : Below B w w') (m : Nat) : Below B w (w'.drewN m) := ⟨h.os, h.tape, h.output, h.size, h.block⟩
/-- a writer of one's own, made behind w0 -/
structure WB (w0 w : World) (o : Addr) (l : List Bool) : Prop where
  has : ∃ fp, Wr w o l fp ∧ ∀ k, fp k → w0.heap.size ≤ k
  bel : Below w0.heap.size w0 w
/-- a reader of one's own, made behind w0 -/
structure RB (w0 w : World) (o : Addr) (xs : List Int) (A : Nat) : Prop where
  has : ∃ s fp, Wz w o s (A : Int) xs fp ∧ ∀ k, fp k → w0.heap.size ≤ k
  bel : Below w0.heap.size w0 w
section
variable {w0 w w' : World} {o : Addr} {l : List Bool} {v n : Int} {xs : List Int} {A : Nat}
theorem WB.below (h : WB w0 w o l) (hb : Below w.heap.size w w') : WB w0 w' o l := by
  obtain ⟨fp, h1, h2⟩ := h.has
  exact ⟨⟨fp, h1.keep (S := fun _ => False) (Gr.below hb) (fun _ _ h => h), h2⟩, h.bel.trans (hb.mono h.bel.size)⟩
theorem RB.below (h : RB w0 w o xs A) (hb : Below w.heap.size w w') : RB w0 w' o xs A := by
  obtain ⟨s, fp, h1, h2⟩ := h.has
  exact ⟨⟨s, fp, h1.keep (S := fun _ => False) (Gr.below hb) (fun _ _ h => h), h2⟩, h.bel.trans (hb.mono h.bel.size)⟩
theorem WB.new (h : Below w0.heap.size w0 w) : Calls Try.prog 33 #[] w (fun e w1 => ∃ (r : Option Addr), e = .returned (.pointer r : Value) ∧ (∃ o, r = some o ∧ WB w0 w1 o [])) := by
  refine (C33 w).mono ?_
  rintro _ w1 ⟨_, rfl, rfl, hw, hb⟩
  have := h.size
  exact ⟨_, rfl, _, rfl, ⟨_, hw, fun k hk => by omega⟩, h.trans (hb.mono h.size)⟩
theorem WB.put (h : WB w0 w o l) (hl : l.length ≤ 1000000) (hv0 : 0 ≤ v) (hv1 : v < 18446744073709551616) :
    Calls Try.prog 43 #[.pointer (some o), .int .u64 v, .int .i64 n] w (fun e w1 => e = .returned (.tuple #[] : Value) ∧ WB w0 w1 o (l ++ bo v.toNat (cl n))) := by
  obtain ⟨fp, h1, h2⟩ := h.has
  refine (C43 h1 hl hv0 hv1).mono ?_
  rintro _ w1 ⟨rfl, fp', hw, hg, hf⟩
  have := h.bel.size
  exact ⟨rfl, ⟨fp', hw, fun k hk => by rcases hf k hk with h | h; exact h2 k h; omega⟩, h.bel.trans (hg.toBelow h.bel.size h2)⟩
theorem WB.cut (h : WB w0 w o l) (hl : l.length ≤ 1000000) (hn : n ≤ 9223372036854775807) :
    Calls Try.prog 45 #[.pointer (some o), .int .i64 n] w (fun e w1 => e = .returned (.tuple #[] : Value) ∧ WB w0 w1 o (l.take n.toNat)) := by
  obtain ⟨fp, h1, h2⟩ := h.has
  refine (C45 h1 hl hn).mono ?_
  rintro _ w1 ⟨rfl, hw, hg⟩
  exact ⟨rfl, ⟨fp, hw, h2⟩, h.bel.trans (hg.toBelow h.bel.size h2)⟩
theorem WB.len (h : WB w0 w o l) : Calls Try.prog 44 #[.pointer (some o)] w (fun e w1 => ∃ (r : Int), e = .returned (.int .i64 r : Value) ∧ (r = l.length ∧ w1 = w)) := by
  obtain ⟨fp, h1, h2⟩ := h.has
  exact C44 h1
theorem WB.bytes (h : WB w0 w o l) (hl : l.length ≤ 1000000) : Calls Try.prog 46 #[.pointer (some o)] w (fun e w1 => ∃ (r0 : Sl), e = .returned (.slice r0.a r0.n r0.c : Value) ∧ (Own B8 5 w.heap.size w1 r0 (pk l) ∧ Below w.heap.size w w1 ∧ WB w0 w1 o l)) := by
  obtain ⟨fp, h1, h2⟩ := h.has
  refine (C46 h1 hl).mono ?_
  rintro _ w1 ⟨r0, rfl, ho, hb⟩
  exact ⟨r0, rfl, ho, hb, h.below hb⟩
theorem RB.new {b : Sl} (h : Below w0.heap.size w0 w) (hr : Rd B8 w b xs) (hl : xs.length ≤ 140737488355328) :
    Calls Try.prog 37 #[.slice b.a b.n b.c] w (fun e w1 => ∃ (r : Option Addr), e = .returned (.pointer r : Value) ∧ (∃ o, r = some o ∧ RB w0 w1 o xs 0 ∧ Below w.heap.size w w1)) := by
  refine (C37 hr hl).mono ?_
  rintro _ w1 ⟨_, rfl, o, s, rfl, hz, hb⟩
  have := h.size
  exact ⟨_, rfl, o, rfl, ⟨⟨s, _, hz, fun k hk => by have := hk.1; omega⟩, h.trans (hb.mono h.size)⟩, hb⟩
theorem RB.left (h : RB w0 w o xs A) (hA : A ≤ 8 * xs.length) (hl : xs.length ≤ 140737488355328) :
    Calls Try.prog 41 #[.pointer (some o)] w (fun e w1 => ∃ (r : Int), e = .returned (.int .i64 r : Value) ∧ (r = 8 * (xs.length : Int) - A ∧ RB w0 w1 o xs A ∧ Below w.heap.size w w1)) := by
  obtain ⟨s, fp, h1, h2⟩ := h.has
  refine (C41 h1 (by omega) (by omega) hl).mono ?_
  rintro _ w1 ⟨r, rfl, rfl, m, rfl⟩
  have hb : Below w.heap.size w (w.drewN m) := below_draw (Below.refl _ _) m
  exact ⟨_, rfl, rfl, h.below hb, hb⟩
theorem RB.get (h : RB w0 w o xs A) (hb : bys xs) (hA : A ≤ 8 * xs.length) (hl : xs.length ≤ 140737488355328) :
    Calls Try.prog 39 #[.pointer (some o), .int .i64 n] w (fun e w1 => ∃ (r0 : Int), ∃ (r1 : Bool), e = .returned (.tuple #[.int .u64 r0, .bool r1] : Value) ∧ (r0 = (rget (unp xs) A n).1 ∧ r1 = (rget (unp xs) A n).2.1 ∧ RB w0 w1 o xs (rget (unp xs) A n).2.2)) := by
  obtain ⟨s, fp, h1, h2⟩ := h.has
  refine (C39 h1 hb hA hl).mono ?_
  rintro _ w1 ⟨r0, r1, rfl, rfl, rfl, hz, hg⟩
  exact ⟨_, _, rfl, rfl, rfl, ⟨s, fp, hz, h2⟩, h.bel.trans (hg.toBelow h.bel.size h2)⟩
end
theorem bys_lit2 {a b : Int} (h : 0 ≤ a ∧ a ≤ 255 ∧ 0 ≤ b ∧ b ≤ 255) : bys [a, b] := by intro x hx; simp at hx; omega
theorem C32 (w : World) : Calls Try.prog 32 #[] w (fun e w1 => ∃ (r0 : Bool), e = .returned (.bool r0 : Value) ∧ (r0 = true ∧ Below w.heap.size w w1)) := by
  refine F32_sound (fun r0 w1 => r0 = true ∧ Below w.heap.size w w1) w ?_
  unfold F32
  refine (WB.new (Below.refl w.heap.size w)).mono ?_
  rintro _ w2 ⟨_, rfl, o, rfl, h2⟩
  refine ⟨some o, rfl, (fun h => nomatch h), fun _ => ?_⟩
  refine (h2.put (v := 5) (n := 3) (by simp) (by omega) (by omega)).mono ?_
  rintro _ w3 ⟨rfl, h3⟩
  refine ⟨rfl, (h3.put (v := 1) (n := 1) (by decide) (by omega) (by omega)).mono ?_⟩
  rintro _ w4 ⟨rfl, h4⟩
  refine ⟨rfl, (h4.put (v := 0) (n := 0) (by decide) (by omega) (by omega)).mono ?_⟩
  rintro _ w5 ⟨rfl, h5⟩
  have e5 : ([] ++ bo (5 : Int).toNat (cl 3) ++ bo (1 : Int).toNat (cl 1) ++ bo (0 : Int).toNat (cl 0)) = [true, false, true, true] := by decide
  rw [e5] at h5
  refine ⟨rfl, (h5.bytes (by simp)).mono ?_⟩
  rintro _ w7 ⟨t24, rfl, o24, b7, h7⟩
  refine ⟨t24, rfl, _, rd_str o24.rd, (h7.put (v := 258) (n := 9) (by simp) (by omega) (by omega)).mono ?_⟩
  rintro _ w9 ⟨rfl, h9⟩
  have e9 : ([true, false, true, true] ++ bo (258 : Int).toNat (cl 9)) = [true, false, true, true, true, false, false, false, false, false, false, true, false] := by decide
  rw [e9] at h9
  refine ⟨rfl, (h9.bytes (by simp)).mono ?_⟩
  rintro _ w11 ⟨t29, rfl, o29, b11, h11⟩
  refine ⟨t29, rfl, _, rd_str o29.rd, h11.len.mono ?_⟩
  rintro _ w14 ⟨_, rfl, rfl, rfl⟩
  refine ⟨_, rfl, (h11.cut (n := 4) (by simp) (by omega)).mono ?_⟩
  rintro _ w15 ⟨rfl, h15⟩
  refine ⟨rfl, (h15.put (v := 255) (n := 4) (by simp) (by omega) (by omega)).mono ?_⟩
  rintro _ w16 ⟨rfl, h16⟩
  have e16 : (List.take (4 : Int).toNat [true, false, true, true, true, false, false, false, false, false, false, true, false] ++ bo (255 : Int).toNat (cl 4)) = [true, false, true, true, true, true, true, true] := by decide
  rw [e16] at h16
  refine ⟨rfl, (h16.bytes (by simp)).mono ?_⟩
  rintro _ w18 ⟨t38, rfl, o38, b18, h18⟩
  refine ⟨t38, rfl, _, rd_str o38.rd, ?_⟩
  rintro _ rfl
  have b20 : Below w.heap.size w (w18.alloc (.cells #[.int .u8 184, .int .u8 16] 5)) := h18.bel.alloc h18.bel.size _
  have hx := bys_lit2 (a := 184) (b := 16) (by omega)
  refine (RB.new (b := ⟨some ⟨w18.heap.size, 0, none⟩, 2, 2⟩) b20 (rd_lit w18 [184, 16] (by simp [maxLen])) (by simp)).mono ?_
  rintro _ w22 ⟨_, rfl, q, rfl, q22, _⟩
  refine ⟨some q, rfl, (fun h => nomatch h), fun _ => ?_⟩
  have g1 : rget (unp [184, 16]) 0 3 = (5, true, 3) := by decide
  have g2 : rget (unp [184, 16]) 3 1 = (1, true, 4) := by decide
  have g3 : rget (unp [184, 16]) 4 9 = (258, true, 13) := by decide
  have g4 : rget (unp [184, 16]) 13 4 = (0, false, 13) := by decide
  refine (q22.get (n := 3) hx (by simp) (by simp)).mono ?_
  rw [g1]
  rintro _ w25 ⟨_, _, rfl, rfl, rfl, q25⟩
  refine ⟨_, _, rfl, (q25.get (n := 1) hx (by simp) (by simp)).mono ?_⟩
  rw [g2]
  rintro _ w28 ⟨_, _, rfl, rfl, rfl, q28⟩
  refine ⟨_, _, rfl, (q28.get (n := 9) hx (by simp) (by simp)).mono ?_⟩
  rw [g3]
  rintro _ w31 ⟨_, _, rfl, rfl, rfl, q31⟩
  refine ⟨_, _, rfl, (q31.left (by simp) (by simp)).mono ?_⟩
  rintro _ w33 ⟨_, rfl, rfl, q33, _⟩
  refine ⟨_, rfl, (q33.get (n := 4) hx (by simp) (by simp)).mono ?_⟩
  rw [g4]
  rintro _ w36 ⟨_, _, rfl, rfl, rfl, q36⟩
  refine ⟨_, _, rfl, fun _ => ⟨fun _ => ⟨fun _ => ⟨fun _ => ⟨fun _ => ⟨fun _ => ⟨fun _ => ⟨fun _ => ⟨fun _ => ⟨rfl, q36.bel⟩, fun h => absurd (by simp) h⟩, fun h => nomatch h⟩, fun h => absurd (by simp) h⟩, fun h => nomatch h⟩, fun h => absurd (by simp) h⟩, fun h => absurd ?_ h⟩, fun h => absurd (by simp) h⟩, fun h => absurd ?_ h⟩, fun h => absurd ?_ h⟩
  · exact congrArg ByteArray.toList (show strOfNums _ = _ from rfl)
  · exact congrArg ByteArray.toList (show strOfNums _ = _ from rfl)
  · exact congrArg ByteArray.toList (show strOfNums _ = _ from rfl)
end Go.Proofs.Ythhcaaellhdkiaa
