/- Rows of cells that are set and read as a whole; bits of numbers. -/
import Derived.Test.YtjgijifankaglaaQR
import Derived.Test.YtjgijifankaglaaNU
namespace Go.Proofs.Ytjgijifankaglaa
open Go Go.RowKit Go.Proofs.Ytjgijifankaglaa.SX
set_option linter.unusedVariables false

def sets (cs : Array Value) : Nat → List Value → Array Value
  | _, [] => cs
  | i, v :: vs => sets (cs.setIfInBounds i v) (i + 1) vs
theorem row_sets {g : Nat} {e : Nat} : ∀ (vs : List Value) (i : Nat) {w : World} {cs : Array Value}, w.heap[g]? = some (.cells cs e (0, 0)) → (setCells w ⟨g, 0, none⟩ i vs).heap[g]? = some (.cells (sets cs i vs) e (0, 0))
  | [], i, w, cs, h => h
  | v :: vs, i, w, cs, h => by
    unfold setCells sets
    rw [add_lit]
    exact row_sets vs (i + 1) (row_set h v)
theorem row_hass {g : Nat} {e : Nat} {w : World} {cs : Array Value} (h : w.heap[g]? = some (.cells cs e (0, 0))) : ∀ (k i : Nat), i + k ≤ cs.size → HasCells w ⟨g, 0, none⟩ i k
  | 0, i, hk => trivial
  | k + 1, i, hk => by
    refine ⟨?_, row_hass h k (i + 1) (by omega)⟩
    rw [add_lit]
    exact row_has h (by omega)
theorem gr_sets {g : Nat} : ∀ (vs : List Value) (i : Nat) (w : World), Gr (fun k => k = g) w (setCells w ⟨g, 0, none⟩ i vs)
  | [], i, w => Gr.refl _ _
  | v :: vs, i, w => by
    unfold setCells
    have h1 : Gr (fun k => k = g) w (w.setCell ((⟨g, 0, none⟩ : Addr).add i) v) := by rw [add_lit]; exact gr_set w ⟨g, i, none⟩ v
    exact h1.trans (gr_sets vs (i + 1) _) (fun i _ hi => hi)
theorem row_cellsAt {g : Nat} {e : Nat} {w : World} {cs : Array Value} (h : w.heap[g]? = some (.cells cs e (0, 0))) : CellsAt w ⟨g, 0, none⟩ 0 cs.toList := by
  refine cellsAt_of _ _ (fun j hj => ?_)
  rw [add_lit, row_get h]
  simp
theorem add2 (g i j : Nat) : ((⟨g, 0, none⟩ : Addr).add i).add j = ⟨g, i + j, none⟩ := by
  rw [add_lit]; unfold Addr.add; split <;> simp_all
theorem store_row {P : Program} {w : World} {T k g e : Nat} {cs ns : Array Value} {vs : List Value} (h : w.heap[g]? = some (.cells cs e (0, 0))) (hT : (P.info? T).map (·.size) = some k) (hl : vs.length = k) (hk : k ≤ cs.size)
    (h1 : (vs.all fun u => u.oneCell') = true) (hs : sets cs 0 vs = ns) :
    ∃ w', (Instr.storeAt T (.pointer (some ⟨g, 0, none⟩)) (.agg vs.toArray)).run P w = .ok () w' ∧ w'.heap[g]? = some (.cells ns e (0, 0)) ∧ Gr (fun k => k = g) w w' :=
  ⟨_, rn_storecells hT hl (fun u hu => List.all_eq_true.1 h1 u hu) (row_hass h k 0 (by omega)), hs ▸ row_sets vs 0 h, gr_sets vs 0 w⟩
theorem load_row {P : Program} {w : World} {T k g e : Nat} {cs : Array Value} (h : w.heap[g]? = some (.cells cs e (0, 0))) (hT : aggT P T = true ∧ (P.info? T).map (·.size) = some k) (hl : cs.size = k) :
    (Instr.loadAt T (.pointer (some ⟨g, 0, none⟩))).run P w = .ok (.agg cs) w := by
  have := rn_loadcells (P := P) (w := w) (a := ⟨g, 0, none⟩) hT (by simpa using hl) (row_cellsAt h)
  simpa using this
theorem below_row (w : World) (o : Obj) : Below w.heap.size w (w.alloc o) := (Below.refl _ _).alloc (Nat.le_refl _) _
theorem sets_toList : ∀ (vs : List Value) (i : Nat) (cs : Array Value), i + vs.length = cs.size → (sets cs i vs).toList = cs.toList.take i ++ vs
  | [], i, cs, h => by
    unfold sets
    simp at h
    rw [List.append_nil, List.take_of_length_le (by simp; omega)]
  | v :: vs, i, cs, h => by
    unfold sets
    simp only [List.length_cons] at h
    rw [sets_toList vs (i + 1) _ (by simp; omega), Array.toList_setIfInBounds, List.take_set, List.take_succ_eq_append_getElem (by simp; omega)]
    rw [List.set_append_right _ _ (by simp; omega)]
    simp
    have : min i cs.size = i := by omega
    simp [this]
theorem sets_all {vs : List Value} {cs : Array Value} (h : vs.length = cs.size) : sets cs 0 vs = vs.toArray := by
  have := sets_toList vs 0 cs (by omega)
  simp at this
  exact Array.toList_inj.1 (by simpa using this)
theorem store_all {P : Program} {w : World} {T k g e : Nat} {cs vs : Array Value} (h : w.heap[g]? = some (.cells cs e (0, 0))) (hT : (P.info? T).map (·.size) = some k) (hl : vs.size = k) (hk : cs.size = k)
    (h1 : ∀ u ∈ vs.toList, u.oneCell' = true) :
    ∃ w', (Instr.storeAt T (.pointer (some ⟨g, 0, none⟩)) (.agg vs)).run P w = .ok () w' ∧ w'.heap[g]? = some (.cells vs e (0, 0)) ∧ Gr (fun k => k = g) w w' := by
  have := store_row (P := P) (T := T) (k := k) (vs := vs.toList) (ns := vs) h hT (by simpa using hl) (by omega) (by rw [List.all_eq_true]; exact h1) (by rw [sets_all (by simp; omega)])
  simpa using this
theorem ibx {a b : Nat} (ha : a < 4294967296) (hb : b < 4294967296) : ibits .xor .u32 (a : Int) (b : Int) = ((a ^^^ b : Nat) : Int) := by
  have hx : a ^^^ b < 2 ^ 32 := Nat.xor_lt_two_pow ha hb
  show IntKind.u32.wrap ((BitVec.ofInt 32 (a : Int) ^^^ BitVec.ofInt 32 (b : Int)).toNat : Int) = _
  rw [BitVec.ofInt_natCast, BitVec.ofInt_natCast, BitVec.toNat_xor, BitVec.toNat_ofNat, BitVec.toNat_ofNat, Nat.mod_eq_of_lt ha, Nat.mod_eq_of_lt hb, w_u32 (by omega) (by omega)]
theorem ibx8 {a b : Nat} (ha : a < 256) (hb : b < 256) : ibits .xor .u8 (a : Int) (b : Int) = ((a ^^^ b : Nat) : Int) := by
  have hx : a ^^^ b < 2 ^ 8 := Nat.xor_lt_two_pow ha hb
  show IntKind.u8.wrap ((BitVec.ofInt 8 (a : Int) ^^^ BitVec.ofInt 8 (b : Int)).toNat : Int) = _
  rw [BitVec.ofInt_natCast, BitVec.ofInt_natCast, BitVec.toNat_xor, BitVec.toNat_ofNat, BitVec.toNat_ofNat, Nat.mod_eq_of_lt ha, Nat.mod_eq_of_lt hb, w_u8 (by omega) (by omega)]
theorem iba {a b : Nat} (ha : a < 4294967296) (hb : b < 4294967296) : ibits .and .u32 (a : Int) (b : Int) = ((a &&& b : Nat) : Int) := by
  have hx : a &&& b < 2 ^ 32 := Nat.and_lt_two_pow a hb
  show IntKind.u32.wrap ((BitVec.ofInt 32 (a : Int) &&& BitVec.ofInt 32 (b : Int)).toNat : Int) = _
  rw [BitVec.ofInt_natCast, BitVec.ofInt_natCast, BitVec.toNat_and, BitVec.toNat_ofNat, BitVec.toNat_ofNat, Nat.mod_eq_of_lt ha, Nat.mod_eq_of_lt hb, w_u32 (by omega) (by omega)]
theorem ibo {a b : Nat} (ha : a < 4294967296) (hb : b < 4294967296) : ibits .or .u32 (a : Int) (b : Int) = ((a ||| b : Nat) : Int) := by
  have hx : a ||| b < 2 ^ 32 := Nat.or_lt_two_pow ha hb
  show IntKind.u32.wrap ((BitVec.ofInt 32 (a : Int) ||| BitVec.ofInt 32 (b : Int)).toNat : Int) = _
  rw [BitVec.ofInt_natCast, BitVec.ofInt_natCast, BitVec.toNat_or, BitVec.toNat_ofNat, BitVec.toNat_ofNat, Nat.mod_eq_of_lt ha, Nat.mod_eq_of_lt hb, w_u32 (by omega) (by omega)]
end Go.Proofs.Ytjgijifankaglaa
