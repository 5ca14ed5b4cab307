/- Whole blocks, slices of rows of cells, slices of structs that came in (for the laws of package quota, without package bits). -/
import Derived.Test.YtjgijifankaglaaGR
import Derived.Test.YtjgijifankaglaaA
import Derived.Test.YtjgijifankaglaaProg
import Derived.Deep.Slices
import Derived.OpenShut
import Derived.Lib.Bytes
namespace Go.Proofs.Ytjgijifankaglaa
open Go Go.RowKit Go.ChangeShapes Go.WideShapes Go.Proofs.Ytjgijifankaglaa.SX
set_option linter.unusedVariables false

theorem gr_drewN {S : Nat → Prop} {w w' : World} (h : Gr S w w') (m : Nat) : Gr S w (w'.drewN m) := ⟨h.os, h.tape, h.output, h.size, h.block⟩
theorem below_draw {B : Nat} {w w' : World} (h : Below B w w') (m : Nat) : Below B w (w'.drewN m) := ⟨h.os, h.tape, h.output, h.size, h.block⟩
theorem eqIn_bool (d : Nat) (w : World) (a b : Bool) : (Op.equalIn (d + 1) 4 (.bool a) (.bool b)).run Try.prog w = .ok (a == b) w := by simp [Op.equalIn]
theorem neq_bool (w : World) (x y : Operand) (a b : Bool) : (do eqGuard .neq 4 x y (.bool a : Value) (.bool b : Value); binOp .neq 4 (.bool a : Value) (.bool b : Value) : Sem Value).run Try.prog w = .ok (.bool (a != b) : Value) w := by
  have h : (Op.equal 4 (.bool a) (.bool b)).run Try.prog w = .ok (a == b) w := eqIn_bool 9999 w a b
  simp [eqGuard, binOp, h]; cases a <;> cases b <;> rfl

/-! ### whole blocks -/
section
variable {w w' : World} {g e j : Nat} {cs : Array Value} {S : Nat → Prop}
theorem row_get (h : w.heap[g]? = some (.cells cs e (0, 0))) (j : Nat) : w.cell? ⟨g, j, none⟩ = cs[j]? := cell_of_row w g j cs e (0, 0) h
theorem row_has (h : w.heap[g]? = some (.cells cs e (0, 0))) (hj : j < cs.size) : HasCell w ⟨g, j, none⟩ := by
  refine ⟨⟨cs[j], ?_⟩, ?_⟩
  · rw [row_get h]; simp [hj]
  · unfold World.frozen?; rw [h]; simp
theorem row_set (h : w.heap[g]? = some (.cells cs e (0, 0))) (v : Value) : (w.setCell ⟨g, j, none⟩ v).heap[g]? = some (.cells (cs.setIfInBounds j v) e (0, 0)) := by
  unfold World.setCell
  simp [Array.getElem?_modify, h]
theorem row_lt (h : w.heap[g]? = some (.cells cs e (0, 0))) : g < w.heap.size := by
  rcases Nat.lt_or_ge g w.heap.size with h' | h'
  · exact h'
  · rw [Array.getElem?_eq_none h'] at h; cases h
theorem Gr.blk (hg : Gr S w w') (h : w.heap[g]? = some (.cells cs e (0, 0))) (hn : ¬ S g) : w'.heap[g]? = some (.cells cs e (0, 0)) := by
  rw [hg.block g (row_lt h) hn]; exact h
theorem gr_set (w : World) (p : Addr) (v : Value) : Gr (fun k => k = p.block) w (w.setCell p v) := Gr.row (grown_set w p v) (fun b hb => by cases hb; rfl)
theorem gr_alloc (w : World) (cs : Array Value) (e : Nat) : Gr S w (w.alloc (.cells cs e)) := Gr.below ((Below.refl _ _).alloc (Nat.le_refl _) _)
theorem gr_drew (w : World) (m : Nat) : Gr S w (w.drewN m) := gr_drewN (Gr.refl _ _) m
end

/-! ### a slice of rows of cells -/
theorem SX.CellsAt.below {w w' : World} (hb : Below w.heap.size w w') {a : Addr} : ∀ {i : Nat} {vs : List Value}, CellsAt w a i vs → CellsAt w' a i vs
  | _, [], _ => trivial
  | i, v :: vs, h => ⟨by rw [hb.cell (World.block_lt_of_cell? w _ h.1)]; exact h.1, SX.CellsAt.below hb h.2⟩
def RdR {α : Type} (enc : α → List Value) (k : Nat) (w : World) (s : Sl) (xs : List α) : Prop :=
  xs.length = s.n ∧ s.n ≤ 9223372036854775807 ∧ (0 < s.n → ∃ a, s.a = some a ∧ ∀ j (h : j < xs.length), CellsAt w (a.add (j * k)) 0 (enc xs[j]))
theorem RdR.below {α : Type} {enc : α → List Value} {k : Nat} {w w' : World} {s : Sl} {xs : List α} (h : RdR enc k w s xs) (hb : Below w.heap.size w w') : RdR enc k w' s xs :=
  ⟨h.1, h.2.1, fun h0 => by
    obtain ⟨a, h1, h2⟩ := h.2.2 h0
    exact ⟨a, h1, fun j hj => (h2 j hj).below hb⟩⟩
theorem RdR.at {α : Type} {enc : α → List Value} {k : Nat} {w : World} {s : Sl} {xs : List α} (h : RdR enc k w s xs) (i : Nat) (hi : i < xs.length) : ∃ a, s.a = some a ∧ CellsAt w (a.add (i * k)) 0 (enc xs[i]) := by
  obtain ⟨a, h1, h2⟩ := h.2.2 (by have := h.1; omega)
  exact ⟨a, h1, h2 i hi⟩

theorem and1_i64 (x : Int) : ibits .and .i64 x 1 = 0 ∨ ibits .and .i64 x 1 = 1 := by
  have h : ibits .and .i64 x 1 = IntKind.i64.wrap ((BitVec.ofInt 64 x &&& BitVec.ofInt 64 1).toNat) := rfl
  rw [h, BitVec.toNat_and, show (BitVec.ofInt 64 1).toNat = 2 ^ 1 - 1 from by decide, Nat.and_two_pow_sub_one_eq_mod]
  rcases Nat.mod_two_eq_zero_or_one (BitVec.ofInt 64 x).toNat with h | h
  · left; rw [show (2 : Nat) ^ 1 = 2 from rfl, h]; decide
  · right; rw [show (2 : Nat) ^ 1 = 2 from rfl, h]; decide
/-- a kind of cell -/
inductive LK where
  | int (k : IntKind)
  | str
  | bool
def LK.ok : LK → Value → Prop
  | .int k, v => ∃ n, v = .int k n ∧ (Lit.int k n).wf = true
  | .str, v => ∃ s : ByteArray, v = .string s ∧ s.size ≤ maxLen
  | .bool, v => ∃ b, v = .bool b
def Leaves : List LK → List Value → Prop
  | [], [] => True
  | k :: ks, v :: vs => k.ok v ∧ Leaves ks vs
  | _, _ => False
theorem Leaves.app : ∀ {ks ks' : List LK} {vs vs' : List Value}, Leaves ks vs → Leaves ks' vs' → Leaves (ks ++ ks') (vs ++ vs')
  | [], _, [], _, _, h => h
  | k :: ks, _, v :: vs, _, h, h' => ⟨h.1, Leaves.app h.2 h'⟩
  | [], _, _ :: _, _, h, _ => h.elim
  | _ :: _, _, [], _, h, _ => h.elim
theorem leaves_cons : ∀ {k : LK} {ks : List LK} {l : List Value}, Leaves (k :: ks) l → ∃ v vs, l = v :: vs ∧ k.ok v ∧ Leaves ks vs
  | _, _, [], h => h.elim
  | _, _, v :: vs, h => ⟨v, vs, rfl, h.1, h.2⟩
theorem leaves_nil : ∀ {l : List Value}, Leaves [] l → l = []
  | [], _ => rfl
  | _ :: _, h => h.elim
def flatFs (P : Program) (rc : TypeId → Option (List LK)) : List Field → Nat → Option (List LK)
  | [], _ => some []
  | f :: fs, off => if f.offset = off then match rc f.type with
      | some ks => if P.cellsOf f.type = ks.length then (flatFs P rc fs (off + ks.length)).map (ks ++ ·) else none
      | none => none
    else none
def flatK (P : Program) : Nat → TypeId → Option (List LK)
  | 0, _ => none
  | n + 1, t => match P.underlying t with
    | some (.int k) => some [.int k]
    | some .string => some [.str]
    | some .bool => some [.bool]
    | some (.struct fs) => match flatFs P (flatK P n) fs.toList 0 with
      | some ks => if P.cellsOf t = ks.length then some ks else none
      | none => none
    | _ => none
section
variable {H : Type} {enc : TypeId × Value → H} {P : Program} {w : World} {base : Nat} {spare : Nat → Bool} {held : Bool}
theorem leaves_fs {rc : TypeId → Option (List LK)} {cs : List Value} (hrc : ∀ t ks fuel cs x, rc t = some ks → DataW.trod enc P w base spare held fuel t cs = some x → Leaves ks cs) :
    ∀ (fs : List Field) (off : Nat) (ks : List LK), flatFs P rc fs off = some ks → (∀ (i : Nat) (f : Field), fs[i]? = some f → ∃ fuel x, DataW.trod enc P w base spare held fuel f.type ((cs.drop f.offset).take (P.cellsOf f.type)) = some x) → Leaves ks ((cs.drop off).take ks.length)
  | [], off, ks, h, _ => by simp [flatFs] at h; subst h; simp [Leaves]
  | f :: fs, off, ks, h, hf => by
    simp only [flatFs] at h
    split at h
    · rename_i ho
      split at h
      · rename_i ks1 h1
        split at h
        · rename_i hc
          obtain ⟨ks2, h2, rfl⟩ := Option.map_eq_some_iff.1 h
          obtain ⟨fuel, x, hx⟩ := hf 0 f rfl
          have l1 := hrc _ _ _ _ _ h1 hx
          rw [ho, hc] at l1
          have l2 := leaves_fs hrc fs (off + ks1.length) ks2 h2 (fun i g hg => hf (i + 1) g (by simpa using hg))
          rw [List.length_append, List.take_add, List.drop_drop]
          exact l1.app l2
        · cases h
      · cases h
    · cases h
theorem leaves_of : ∀ (n : Nat) (t : TypeId) (ks : List LK) (fuel : Nat) (cs : List Value) (x : DataW H × List MemPlace), flatK P n t = some ks → DataW.trod enc P w base spare held fuel t cs = some x → Leaves ks cs
  | 0, _, _, _, _, _, h, _ => by simp [flatK] at h
  | n + 1, t, ks, fuel, cs, x, h, hx => by
    simp only [flatK] at h
    split at h
    · rename_i k hk
      cases h
      obtain ⟨m, rfl, _, hw⟩ := DataW.trod_int hk hx
      exact ⟨⟨m, rfl, hw⟩, trivial⟩
    · rename_i hk
      cases h
      obtain ⟨s, rfl, _, hw⟩ := DataW.trod_string hk hx
      exact ⟨⟨s, rfl, hw⟩, trivial⟩
    · rename_i hk
      cases h
      obtain ⟨b, rfl, _⟩ := DataW.trod_bool hk hx
      exact ⟨⟨b, rfl⟩, trivial⟩
    · rename_i fs hk
      split at h
      · rename_i ks' hks
        split at h
        · rename_i hc
          cases h
          obtain ⟨xs, m, _, _, hl, hxl, hf⟩ := DataW.trod_struct hk hx
          have := leaves_fs (cs := cs) (fun t ks fuel cs x => leaves_of n t ks fuel cs x) fs.toList 0 ks hks (fun i f hi => by
            have hi' : fs[i]? = some f := by simpa using hi
            have := hf i f hi'
            have hlt : i < xs.length := by
              have := (Array.getElem?_eq_some_iff.1 hi').1
              omega
            exact ⟨m, xs[i], by rw [this]; simp [hlt]⟩)
          rw [List.drop_zero, List.take_of_length_le (by omega)] at this
          exact this
        · cases h
      · cases h
    · cases h
theorem cellsAt_of {a : Addr} : ∀ (cs : List Value) (i : Nat), (∀ j, j < cs.length → w.cell? (a.add (i + j)) = cs[j]?) → CellsAt w a i cs
  | [], _, _ => trivial
  | v :: vs, i, h => ⟨by have := h 0 (by simp); simpa using this, cellsAt_of vs (i + 1) (fun j hj => by
      have := h (j + 1) (by simp; omega)
      rw [show i + 1 + j = i + (j + 1) by omega, this]; simp)⟩
/-- a slice of structs: its rows -/
theorem rdR_of {t e k n : Nat} {ks : List LK} {fuel len cap : Nat} {a0 : Option Addr} {x : DataW H × List MemPlace} (ht : P.underlying t = some (.slice e)) (hf : flatK P n e = some ks) (hc : P.cellsOf e = k)
    (h : DataW.trod enc P w base spare held fuel t [.slice a0 len cap] = some x) : ∃ ls : List (List Value), RdR (fun l => l) k w ⟨a0, len, cap⟩ ls ∧ ∀ l ∈ ls, Leaves ks l := by
  rcases Deep.open_slice ht h with ⟨hcs, _⟩ | ⟨a, len', cap', m, fu, D, Pl, hcs, hb, hl, hm, hmm, rfl, hx⟩
  · simp at hcs
    obtain ⟨rfl, rfl, rfl⟩ := hcs
    exact ⟨[], ⟨rfl, by simp, fun h => absurd h (by simp)⟩, fun l hl => by simp at hl⟩
  · simp at hcs
    obtain ⟨rfl, rfl, rfl⟩ := hcs
    have hlm : len ≤ m := by rw [hmm]; split <;> omega
    have each : ∀ i, i < len → ∃ l : List Value, CellsAt w (a.add (i * k)) 0 l ∧ Leaves ks l := by
      intro i hi
      obtain ⟨cs', h1, h2⟩ := hx i (by omega)
      rw [hc] at h1
      obtain ⟨_, hlen, hcell⟩ := World.cells?_some h1
      exact ⟨cs', cellsAt_of cs' 0 (fun j hj => by
        have := hcell j (by omega)
        rw [Nat.zero_add, this]), leaves_of n e ks fu cs' _ hf h2⟩
    obtain ⟨f, hf'⟩ := Deep.choose_lt (α := List Value) each
    refine ⟨(List.range len).map f, ⟨by simp, by simp only [maxLen] at hm; show len ≤ _; omega, fun h0 => ⟨a, rfl, fun j hj => ?_⟩⟩, fun l hl' => ?_⟩
    · simp at hj
      simpa using (hf' j hj).1
    · simp at hl'
      obtain ⟨i, hi, rfl⟩ := hl'
      exact (hf' i hi).2
end
theorem list_of {α : Type} {e : α → List Value} {p : α → Prop} : ∀ (ls : List (List Value)), (∀ l ∈ ls, ∃ b, e b = l ∧ p b) → ∃ bs : List α, bs.map e = ls ∧ ∀ b ∈ bs, p b
  | [], _ => ⟨[], rfl, fun b hb => by simp at hb⟩
  | l :: ls, h => by
    obtain ⟨b, hb, hp⟩ := h l (List.mem_cons_self ..)
    obtain ⟨bs, hbs, hps⟩ := list_of ls (fun l hl => h l (List.mem_cons_of_mem _ hl))
    exact ⟨b :: bs, by simp [hb, hbs], fun x hx => by
      rcases List.mem_cons.1 hx with rfl | hx
      · exact hp
      · exact hps x hx⟩
/-- .. read as something -/
theorem rdR_enc {α : Type} {e : α → List Value} {p : α → Prop} {w : World} {s : Sl} {k : Nat} {ls : List (List Value)} (h : RdR (fun l => l) k w s ls) (hp : ∀ l ∈ ls, ∃ b, e b = l ∧ p b) : ∃ bs : List α, RdR e k w s bs ∧ ∀ b ∈ bs, p b := by
  obtain ⟨bs, hb, hps⟩ := list_of ls hp
  subst hb
  refine ⟨bs, ⟨by simpa using h.1, h.2.1, fun h0 => ?_⟩, hps⟩
  obtain ⟨a, h1, h2⟩ := h.2.2 h0
  refine ⟨a, h1, fun j hj => ?_⟩
  have := h2 j (by simpa using hj)
  simp only [List.getElem_map] at this
  exact this
end Go.Proofs.Ytjgijifankaglaa
