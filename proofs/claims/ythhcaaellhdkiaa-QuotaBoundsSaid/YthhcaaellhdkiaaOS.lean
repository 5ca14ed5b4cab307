/- Slices of structs that came in: what their cells are. -/
import Derived.Test.YthhcaaellhdkiaaCO
import Derived.Deep.Slices
import Derived.OpenShut
namespace Go.Proofs.Ythhcaaellhdkiaa
open Go Go.RowKit Go.ChangeShapes Go.WideShapes Go.Proofs.Ythhcaaellhdkiaa.SX
set_option linter.unusedVariables false

/-- a kind of cell -/
inductive LK where
  | int (k : IntKind)
  | str
  | bool
def LK.ok : LK → Value → Prop
  | .int k, v => ∃ n, v = .int k n ∧ (Lit.int k n).wf = true
  | .str, v => ∃ s : ByteArray, v = .string s ∧ s.size ≤ maxLen
  | .bool, v => ∃ b, v = .bool b
def Leaves : List LK → List Value → Prop
  | [], [] => True
  | k :: ks, v :: vs => k.ok v ∧ Leaves ks vs
  | _, _ => False
theorem Leaves.app : ∀ {ks ks' : List LK} {vs vs' : List Value}, Leaves ks vs → Leaves ks' vs' → Leaves (ks ++ ks') (vs ++ vs')
  | [], _, [], _, _, h => h
  | k :: ks, _, v :: vs, _, h, h' => ⟨h.1, Leaves.app h.2 h'⟩
  | [], _, _ :: _, _, h, _ => h.elim
  | _ :: _, _, [], _, h, _ => h.elim
theorem leaves_cons : ∀ {k : LK} {ks : List LK} {l : List Value}, Leaves (k :: ks) l → ∃ v vs, l = v :: vs ∧ k.ok v ∧ Leaves ks vs
  | _, _, [], h => h.elim
  | _, _, v :: vs, h => ⟨v, vs, rfl, h.1, h.2⟩
theorem leaves_nil : ∀ {l : List Value}, Leaves [] l → l = []
  | [], _ => rfl
  | _ :: _, h => h.elim
def flatFs (P : Program) (rc : TypeId → Option (List LK)) : List Field → Nat → Option (List LK)
  | [], _ => some []
  | f :: fs, off => if f.offset = off then match rc f.type with
      | some ks => if P.cellsOf f.type = ks.length then (flatFs P rc fs (off + ks.length)).map (ks ++ ·) else none
      | none => none
    else none
def flatK (P : Program) : Nat → TypeId → Option (List LK)
  | 0, _ => none
  | n + 1, t => match P.underlying t with
    | some (.int k) => some [.int k]
    | some .string => some [.str]
    | some .bool => some [.bool]
    | some (.struct fs) => match flatFs P (flatK P n) fs.toList 0 with
      | some ks => if P.cellsOf t = ks.length then some ks else none
      | none => none
    | _ => none
section
variable {H : Type} {enc : TypeId × Value → H} {P : Program} {w : World} {base : Nat} {spare : Nat → Bool} {held : Bool}
theorem leaves_fs {rc : TypeId → Option (List LK)} {cs : List Value} (hrc : ∀ t ks fuel cs x, rc t = some ks → DataW.trod enc P w base spare held fuel t cs = some x → Leaves ks cs) :
    ∀ (fs : List Field) (off : Nat) (ks : List LK), flatFs P rc fs off = some ks → (∀ (i : Nat) (f : Field), fs[i]? = some f → ∃ fuel x, DataW.trod enc P w base spare held fuel f.type ((cs.drop f.offset).take (P.cellsOf f.type)) = some x) → Leaves ks ((cs.drop off).take ks.length)
  | [], off, ks, h, _ => by simp [flatFs] at h; subst h; simp [Leaves]
  | f :: fs, off, ks, h, hf => by
    simp only [flatFs] at h
    split at h
    · rename_i ho
      split at h
      · rename_i ks1 h1
        split at h
        · rename_i hc
          obtain ⟨ks2, h2, rfl⟩ := Option.map_eq_some_iff.1 h
          obtain ⟨fuel, x, hx⟩ := hf 0 f rfl
          have l1 := hrc _ _ _ _ _ h1 hx
          rw [ho, hc] at l1
          have l2 := leaves_fs hrc fs (off + ks1.length) ks2 h2 (fun i g hg => hf (i + 1) g (by simpa using hg))
          rw [List.length_append, List.take_add, List.drop_drop]
          exact l1.app l2
        · cases h
      · cases h
    · cases h
theorem leaves_of : ∀ (n : Nat) (t : TypeId) (ks : List LK) (fuel : Nat) (cs : List Value) (x : DataW H × List MemPlace), flatK P n t = some ks → DataW.trod enc P w base spare held fuel t cs = some x → Leaves ks cs
  | 0, _, _, _, _, _, h, _ => by simp [flatK] at h
  | n + 1, t, ks, fuel, cs, x, h, hx => by
    simp only [flatK] at h
    split at h
    · rename_i k hk
      cases h
      obtain ⟨m, rfl, _, hw⟩ := DataW.trod_int hk hx
      exact ⟨⟨m, rfl, hw⟩, trivial⟩
    · rename_i hk
      cases h
      obtain ⟨s, rfl, _, hw⟩ := DataW.trod_string hk hx
      exact ⟨⟨s, rfl, hw⟩, trivial⟩
    · rename_i hk
      cases h
      obtain ⟨b, rfl, _⟩ := DataW.trod_bool hk hx
      exact ⟨⟨b, rfl⟩, trivial⟩
    · rename_i fs hk
      split at h
      · rename_i ks' hks
        split at h
        · rename_i hc
          cases h
          obtain ⟨xs, m, _, _, hl, hxl, hf⟩ := DataW.trod_struct hk hx
          have := leaves_fs (cs := cs) (fun t ks fuel cs x => leaves_of n t ks fuel cs x) fs.toList 0 ks hks (fun i f hi => by
            have hi' : fs[i]? = some f := by simpa using hi
            have := hf i f hi'
            have hlt : i < xs.length := by
              have := (Array.getElem?_eq_some_iff.1 hi').1
              omega
            exact ⟨m, xs[i], by rw [this]; simp [hlt]⟩)
          rw [List.drop_zero, List.take_of_length_le (by omega)] at this
          exact this
        · cases h
      · cases h
    · cases h
theorem cellsAt_of {a : Addr} : ∀ (cs : List Value) (i : Nat), (∀ j, j < cs.length → w.cell? (a.add (i + j)) = cs[j]?) → CellsAt w a i cs
  | [], _, _ => trivial
  | v :: vs, i, h => ⟨by have := h 0 (by simp); simpa using this, cellsAt_of vs (i + 1) (fun j hj => by
      have := h (j + 1) (by simp; omega)
      rw [show i + 1 + j = i + (j + 1) by omega, this]; simp)⟩
/-- a slice of structs: its rows -/
theorem rdR_of {t e k n : Nat} {ks : List LK} {fuel len cap : Nat} {a0 : Option Addr} {x : DataW H × List MemPlace} (ht : P.underlying t = some (.slice e)) (hf : flatK P n e = some ks) (hc : P.cellsOf e = k)
    (h : DataW.trod enc P w base spare held fuel t [.slice a0 len cap] = some x) : ∃ ls : List (List Value), RdR (fun l => l) k w ⟨a0, len, cap⟩ ls ∧ ∀ l ∈ ls, Leaves ks l := by
  rcases Deep.open_slice ht h with ⟨hcs, _⟩ | ⟨a, len', cap', m, fu, D, Pl, hcs, hb, hl, hm, hmm, rfl, hx⟩
  · simp at hcs
    obtain ⟨rfl, rfl, rfl⟩ := hcs
    exact ⟨[], ⟨rfl, by simp, fun h => absurd h (by simp)⟩, fun l hl => by simp at hl⟩
  · simp at hcs
    obtain ⟨rfl, rfl, rfl⟩ := hcs
    have hlm : len ≤ m := by rw [hmm]; split <;> omega
    have each : ∀ i, i < len → ∃ l : List Value, CellsAt w (a.add (i * k)) 0 l ∧ Leaves ks l := by
      intro i hi
      obtain ⟨cs', h1, h2⟩ := hx i (by omega)
      rw [hc] at h1
      obtain ⟨_, hlen, hcell⟩ := World.cells?_some h1
      exact ⟨cs', cellsAt_of cs' 0 (fun j hj => by
        have := hcell j (by omega)
        rw [Nat.zero_add, this]), leaves_of n e ks fu cs' _ hf h2⟩
    obtain ⟨f, hf'⟩ := Deep.choose_lt (α := List Value) each
    refine ⟨(List.range len).map f, ⟨by simp, by simp only [maxLen] at hm; show len ≤ _; omega, fun h0 => ⟨a, rfl, fun j hj => ?_⟩⟩, fun l hl' => ?_⟩
    · simp at hj
      simpa using (hf' j hj).1
    · simp at hl'
      obtain ⟨i, hi, rfl⟩ := hl'
      exact (hf' i hi).2
end
theorem list_of {α : Type} {e : α → List Value} {p : α → Prop} : ∀ (ls : List (List Value)), (∀ l ∈ ls, ∃ b, e b = l ∧ p b) → ∃ bs : List α, bs.map e = ls ∧ ∀ b ∈ bs, p b
  | [], _ => ⟨[], rfl, fun b hb => by simp at hb⟩
  | l :: ls, h => by
    obtain ⟨b, hb, hp⟩ := h l (List.mem_cons_self ..)
    obtain ⟨bs, hbs, hps⟩ := list_of ls (fun l hl => h l (List.mem_cons_of_mem _ hl))
    exact ⟨b :: bs, by simp [hb, hbs], fun x hx => by
      rcases List.mem_cons.1 hx with rfl | hx
      · exact hp
      · exact hps x hx⟩
/-- .. read as something -/
theorem rdR_enc {α : Type} {e : α → List Value} {p : α → Prop} {w : World} {s : Sl} {k : Nat} {ls : List (List Value)} (h : RdR (fun l => l) k w s ls) (hp : ∀ l ∈ ls, ∃ b, e b = l ∧ p b) : ∃ bs : List α, RdR e k w s bs ∧ ∀ b ∈ bs, p b := by
  obtain ⟨bs, hb, hps⟩ := list_of ls hp
  subst hb
  refine ⟨bs, ⟨by simpa using h.1, h.2.1, fun h0 => ?_⟩, hps⟩
  obtain ⟨a, h1, h2⟩ := h.2.2 h0
  refine ⟨a, h1, fun j hj => ?_⟩
  have := h2 j (by simpa using hj)
  simp only [List.getElem_map] at this
  exact this
theorem bop_of {l : List Value} (h : Leaves [.int .i64, .int .i64, .int .u64, .int .i64] l) : ∃ b : BOp, b.enc = l ∧ (0 ≤ b.v ∧ b.v < 18446744073709551616 ∧ b.n ≤ 9223372036854775807) := by
  obtain ⟨v0, l, rfl, ⟨k, rfl, h0⟩, hA⟩ := leaves_cons h
  obtain ⟨v1, l, rfl, ⟨on, rfl, h1⟩, hB⟩ := leaves_cons hA
  obtain ⟨v2, l, rfl, ⟨v, rfl, h2⟩, hC⟩ := leaves_cons hB
  obtain ⟨v3, l, rfl, ⟨n, rfl, h3⟩, hD⟩ := leaves_cons hC
  obtain rfl := leaves_nil hD
  have g2 := bounds_u64 h2
  have g3 := bounds_i64 h3
  exact ⟨⟨k, on, v, n⟩, rfl, g2.1, Int.lt_of_le_of_lt g2.2 (by decide), g3.2⟩
end Go.Proofs.Ythhcaaellhdkiaa
