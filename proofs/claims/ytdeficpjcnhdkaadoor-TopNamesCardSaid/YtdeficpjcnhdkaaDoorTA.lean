/- TopNames: the closed walk. -/
import Derived.Test.YtdeficpjcnhdkaaDoorQR
import Derived.Test.YtdeficpjcnhdkaaDoorGTa
import Derived.Test.YtdeficpjcnhdkaaDoorGT3
namespace Go.Proofs.YtdeficpjcnhdkaaDoor
open Go Go.RowKit Go.Proofs.YtdeficpjcnhdkaaDoor.SX
set_option linter.unusedVariables false

def sets (cs : Array Value) : Nat → List Value → Array Value
  | _, [] => cs
  | i, v :: vs => sets (cs.setIfInBounds i v) (i + 1) vs
theorem row_sets {g : Nat} {e : Nat} : ∀ (vs : List Value) (i : Nat) {w : World} {cs : Array Value}, w.heap[g]? = some (.cells cs e (0, 0)) → (setCells w ⟨g, 0, none⟩ i vs).heap[g]? = some (.cells (sets cs i vs) e (0, 0))
  | [], i, w, cs, h => h
  | v :: vs, i, w, cs, h => by
    unfold setCells sets
    rw [add_lit]
    exact row_sets vs (i + 1) (row_set h v)
theorem row_hass {g : Nat} {e : Nat} {w : World} {cs : Array Value} (h : w.heap[g]? = some (.cells cs e (0, 0))) : ∀ (k i : Nat), i + k ≤ cs.size → HasCells w ⟨g, 0, none⟩ i k
  | 0, i, hk => trivial
  | k + 1, i, hk => by
    refine ⟨?_, row_hass h k (i + 1) (by omega)⟩
    rw [add_lit]
    exact row_has h (by omega)
theorem gr_sets {g : Nat} : ∀ (vs : List Value) (i : Nat) (w : World), Gr (fun k => k = g) w (setCells w ⟨g, 0, none⟩ i vs)
  | [], i, w => Gr.refl _ _
  | v :: vs, i, w => by
    unfold setCells
    have h1 : Gr (fun k => k = g) w (w.setCell ((⟨g, 0, none⟩ : Addr).add i) v) := by rw [add_lit]; exact gr_set w ⟨g, i, none⟩ v
    exact h1.trans (gr_sets vs (i + 1) _) (fun i _ hi => hi)
theorem row_cellsAt {g : Nat} {e : Nat} {w : World} {cs : Array Value} (h : w.heap[g]? = some (.cells cs e (0, 0))) : CellsAt w ⟨g, 0, none⟩ 0 cs.toList := by
  refine cellsAt_of _ _ (fun j hj => ?_)
  rw [add_lit, row_get h]
  simp
section
variable {w : World} {g : Nat} {a b c d : Value}

theorem b42 : (Instr.build 42 #[(0, .int .u8 1)]).run Tryd.prog w = .ok (.agg #[.int .u8 1, .int .u8 0, .int .u8 0, .int .u8 0, .int .u8 0, .int .u8 0, .int .u8 0, .int .u8 0, .int .u8 0, .int .u8 0, .int .u8 0, .int .u8 0, .int .u8 0, .int .u8 0, .int .u8 0, .int .u8 0, .int .u8 0, .int .u8 0, .int .u8 0, .int .u8 0, .int .u8 0, .int .u8 0, .int .u8 0, .int .u8 0, .int .u8 0, .int .u8 0, .int .u8 0, .int .u8 0, .int .u8 0, .int .u8 0, .int .u8 0, .int .u8 0]) w := by kernel_rfl
theorem b42b : (Instr.build 42 #[(0, .int .u8 4)]).run Tryd.prog w = .ok (.agg #[.int .u8 4, .int .u8 0, .int .u8 0, .int .u8 0, .int .u8 0, .int .u8 0, .int .u8 0, .int .u8 0, .int .u8 0, .int .u8 0, .int .u8 0, .int .u8 0, .int .u8 0, .int .u8 0, .int .u8 0, .int .u8 0, .int .u8 0, .int .u8 0, .int .u8 0, .int .u8 0, .int .u8 0, .int .u8 0, .int .u8 0, .int .u8 0, .int .u8 0, .int .u8 0, .int .u8 0, .int .u8 0, .int .u8 0, .int .u8 0, .int .u8 0, .int .u8 0]) w := by kernel_rfl
theorem b44 : (Instr.build 44 #[(0, .agg #[.int .u8 1, .int .u8 0, .int .u8 0, .int .u8 0, .int .u8 0, .int .u8 0, .int .u8 0, .int .u8 0, .int .u8 0, .int .u8 0, .int .u8 0, .int .u8 0, .int .u8 0, .int .u8 0, .int .u8 0, .int .u8 0, .int .u8 0, .int .u8 0, .int .u8 0, .int .u8 0, .int .u8 0, .int .u8 0, .int .u8 0, .int .u8 0, .int .u8 0, .int .u8 0, .int .u8 0, .int .u8 0, .int .u8 0, .int .u8 0, .int .u8 0, .int .u8 0]), (1, .int .i64 2), (2, .slice (some ⟨g, 0, none⟩) 1 1)]).run Tryd.prog w = .ok (.agg #[.int .u8 1, .int .u8 0, .int .u8 0, .int .u8 0, .int .u8 0, .int .u8 0, .int .u8 0, .int .u8 0, .int .u8 0, .int .u8 0, .int .u8 0, .int .u8 0, .int .u8 0, .int .u8 0, .int .u8 0, .int .u8 0, .int .u8 0, .int .u8 0, .int .u8 0, .int .u8 0, .int .u8 0, .int .u8 0, .int .u8 0, .int .u8 0, .int .u8 0, .int .u8 0, .int .u8 0, .int .u8 0, .int .u8 0, .int .u8 0, .int .u8 0, .int .u8 0, .int .i64 2, .slice (some ⟨g, 0, none⟩) 1 1]) w := by kernel_rfl
theorem b47 {h : Nat} : (Instr.build 47 #[(0, .int .i64 1), (1, .string ((ByteArray.mk #[116]))), (2, .int .i64 2), (3, .int .i64 3), (4, .agg #[.int .u8 1, .int .u8 0, .int .u8 0, .int .u8 0, .int .u8 0, .int .u8 0, .int .u8 0, .int .u8 0, .int .u8 0, .int .u8 0, .int .u8 0, .int .u8 0, .int .u8 0, .int .u8 0, .int .u8 0, .int .u8 0, .int .u8 0, .int .u8 0, .int .u8 0, .int .u8 0, .int .u8 0, .int .u8 0, .int .u8 0, .int .u8 0, .int .u8 0, .int .u8 0, .int .u8 0, .int .u8 0, .int .u8 0, .int .u8 0, .int .u8 0, .int .u8 0, .int .i64 2, .slice (some ⟨g, 0, none⟩) 1 1]), (5, .agg #[.int .u8 4, .int .u8 0, .int .u8 0, .int .u8 0, .int .u8 0, .int .u8 0, .int .u8 0, .int .u8 0, .int .u8 0, .int .u8 0, .int .u8 0, .int .u8 0, .int .u8 0, .int .u8 0, .int .u8 0, .int .u8 0, .int .u8 0, .int .u8 0, .int .u8 0, .int .u8 0, .int .u8 0, .int .u8 0, .int .u8 0, .int .u8 0, .int .u8 0, .int .u8 0, .int .u8 0, .int .u8 0, .int .u8 0, .int .u8 0, .int .u8 0, .int .u8 0]), (6, .int .i64 5), (7, .slice (some ⟨h, 0, none⟩) 1 1)]).run Tryd.prog w = .ok (.agg #[.int .i64 1, .string ((ByteArray.mk #[116])), .int .i64 2, .int .i64 3, .int .u8 1, .int .u8 0, .int .u8 0, .int .u8 0, .int .u8 0, .int .u8 0, .int .u8 0, .int .u8 0, .int .u8 0, .int .u8 0, .int .u8 0, .int .u8 0, .int .u8 0, .int .u8 0, .int .u8 0, .int .u8 0, .int .u8 0, .int .u8 0, .int .u8 0, .int .u8 0, .int .u8 0, .int .u8 0, .int .u8 0, .int .u8 0, .int .u8 0, .int .u8 0, .int .u8 0, .int .u8 0, .int .u8 0, .int .u8 0, .int .u8 0, .int .u8 0, .int .i64 2, .slice (some ⟨g, 0, none⟩) 1 1, .int .u8 4, .int .u8 0, .int .u8 0, .int .u8 0, .int .u8 0, .int .u8 0, .int .u8 0, .int .u8 0, .int .u8 0, .int .u8 0, .int .u8 0, .int .u8 0, .int .u8 0, .int .u8 0, .int .u8 0, .int .u8 0, .int .u8 0, .int .u8 0, .int .u8 0, .int .u8 0, .int .u8 0, .int .u8 0, .int .u8 0, .int .u8 0, .int .u8 0, .int .u8 0, .int .u8 0, .int .u8 0, .int .u8 0, .int .u8 0, .int .u8 0, .int .u8 0, .int .i64 5, .slice (some ⟨h, 0, none⟩) 1 1]) w := by kernel_rfl
theorem b50 {t u m v : Nat} : (Instr.build 50 #[(0, .int .i64 1), (1, .string ((ByteArray.mk #[116]))), (2, .slice (some ⟨t, 0, none⟩) 1 1), (3, .slice (some ⟨u, 0, none⟩) 1 1), (4, .slice (some ⟨m, 0, none⟩) 1 1), (5, .int .i64 3), (6, .int .i64 4), (7, .string ((ByteArray.mk #[113]))), (8, .string ((ByteArray.mk #[110]))), (9, .int .i64 5), (10, .int .i64 6), (11, .int .i64 7), (12, .slice (some ⟨v, 0, none⟩) 1 1)]).run Tryd.prog w = .ok (.agg #[.int .i64 1, .string ((ByteArray.mk #[116])), .slice (some ⟨t, 0, none⟩) 1 1, .slice (some ⟨u, 0, none⟩) 1 1, .slice (some ⟨m, 0, none⟩) 1 1, .int .i64 3, .int .i64 4, .string ((ByteArray.mk #[113])), .string ((ByteArray.mk #[110])), .int .i64 5, .int .i64 6, .int .i64 7, .slice (some ⟨v, 0, none⟩) 1 1]) w := by kernel_rfl
theorem e27 {x y : Operand} : (do eqGuard .eql 27 x y (Value.iface 23 (.int .i64 90)) (Value.iface 23 (.int .i64 90)); binOp .eql 27 (Value.iface 23 (.int .i64 90)) (Value.iface 23 (.int .i64 90)) : Sem Value).run Tryd.prog w = .ok (.bool true) w := by kernel_rfl
theorem str_add {x y : Operand} {u v : ByteArray} {w : World} (h : u.size + v.size ≤ 1000000000) : (do eqGuard .add 9 x y (.string u : Value) (.string v : Value); binOp .add 9 (.string u : Value) (.string v : Value) : Sem Value).run Tryd.prog w = .ok (.string (u ++ v)) w := by
  have hm : IntKind.i64.max = 9223372036854775807 := by rfl
  show (Op.stringOp .add u v).run Tryd.prog w = _
  unfold Op.stringOp
  dsimp only
  rw [if_neg (by rw [hm]; omega)]
  rfl
theorem C70 (i : Int) (hi : i = 1 ∨ i = 7 ∨ i = 90) (w : World) : Calls Tryd.prog 70 #[.int .i64 i] w (fun e w1 => ∃ (r0 : ByteArray), e = .returned (.string r0 : Value) ∧ (r0.size ≤ 2 ∧ w1 = w)) := by
  refine F70_sound i (fun r0 w1 => r0.size ≤ 2 ∧ w1 = w) w ?_
  unfold F70
  rcases hi with rfl | rfl | rfl
  · exact ⟨fun _ => ⟨ByteArray.mk #[49], by kernel_rfl, by decide, rfl⟩, fun h => absurd (by omega) h⟩
  · exact ⟨fun _ => ⟨ByteArray.mk #[55], by kernel_rfl, by decide, rfl⟩, fun h => absurd (by omega) h⟩
  · exact ⟨fun h => absurd h (by omega), fun _ => ⟨ByteArray.mk #[57, 48], by kernel_rfl, by decide, rfl⟩⟩
theorem C13 (i : Int) (hi : i = 1 ∨ i = 7 ∨ i = 90) (w : World) : Calls Tryd.prog 13 #[.int .i64 i] w (fun e w1 => ∃ (r0 : ByteArray), e = .returned (.string r0 : Value) ∧ (r0.size ≤ 2 ∧ w1 = w)) := by
  refine F13_sound i (fun r0 w1 => r0.size ≤ 2 ∧ w1 = w) w ?_
  unfold F13
  refine F21_sound i (fun r0 w1 => r0.size ≤ 2 ∧ w1 = w) w ?_
  unfold F21
  refine F49_sound i 10 (fun r0 w1 => r0.size ≤ 2 ∧ w1 = w) w ?_
  unfold F49
  refine ⟨fun _ => ⟨fun _ => ⟨fun _ => C70 i hi w, fun h => absurd (by omega) h⟩, fun h => absurd (by omega) h⟩, fun h => absurd rfl h⟩
theorem C8 (i : Int) (hi : i = 1 ∨ i = 7 ∨ i = 90) (w : World) : Calls Tryd.prog 8 #[.int .i64 i] w (fun e w1 => ∃ (r0 : ByteArray), e = .returned (.string r0 : Value) ∧ (1 ≤ r0.size ∧ r0.size ≤ 100 ∧ w1 = w)) := by
  refine F8_sound i (fun r0 w1 => 1 ≤ r0.size ∧ r0.size ≤ 100 ∧ w1 = w) w ?_
  unfold F8
  refine (C13 i hi w).mono ?_
  rintro _ w3 ⟨r, rfl, h1, hw⟩
  have hs : (ByteArray.mk #[116, 117, 114, 110, 107, 101, 121, 58, 32, 101, 114, 114, 111, 114, 32]).size = 15 := by decide
  refine ⟨r, rfl, _, str_add (by rw [hs]; omega), ?_, ?_, hw⟩
  · rw [ByteArray.size_append, hs]; omega
  · rw [ByteArray.size_append, hs]; omega
theorem ne_empty {u : ByteArray} (h : 1 ≤ u.size) : ¬ u.toList = (ByteArray.mk #[]).toList := by
  intro he
  rw [ByteArray.toList_eq, ByteArray.toList_eq] at he
  have h0 : u.data.toList.length = 0 := by rw [he]; rfl
  have h1 : u.data.toList.length = u.size := Array.length_toList
  omega
theorem C7 {w : World} {g : Nat} (h : w.heap[g]? = some (.cells #[.int .i64 7, .int .i64 90] 25 (0, 0))) : Calls Tryd.prog 7 #[.pointer (some ⟨g, 0, none⟩)] w (fun e w1 => ∃ (r0 : ByteArray), e = .returned (.string r0 : Value) ∧ (1 ≤ r0.size ∧ w1 = w.drew)) := by
  refine F7_sound _ (fun r0 w1 => 1 ≤ r0.size ∧ w1 = w.drew) w ?_
  unfold F7
  rintro w2 e
  have h2 : w2.heap[g]? = some (.cells #[.int .i64 7, .int .i64 90] 25 (0, 0)) := by rw [e]; exact h
  refine ⟨⟨g, 0, none⟩, rfl, 90, by rw [add_lit, row_get h2]; rfl, ⟨g, 0, none⟩, rfl, 7, by rw [row_get h2]; rfl, ?_⟩
  refine (C8 90 (.inr (.inr rfl)) w2).mono ?_
  rintro _ w8 ⟨r, rfl, h3, h4, hw⟩
  have hs : (ByteArray.mk #[32, 97, 116, 32]).size = 4 := by decide
  rw [hw]
  refine ⟨r, rfl, by rw [row_get h2]; rfl, _, str_add (by rw [hs]; omega), ?_⟩
  refine (C13 7 (.inr (.inl rfl)) w2).mono ?_
  rintro _ w11 ⟨r2, rfl, h5, hw2⟩
  rw [hw2]
  refine ⟨r2, rfl, str_add (by rw [hs]; omega), _, str_add (by rw [ByteArray.size_append, hs]; omega), ?_, e⟩
  rw [ByteArray.size_append, ByteArray.size_append, hs]; omega
end
end Go.Proofs.YtdeficpjcnhdkaaDoor
