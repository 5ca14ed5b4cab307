/- Slices whose elements take several cells: what is read, owned, appended, cut and set. -/
import Derived.Test.YthhcaaellhdkiaaQF
namespace Go.Proofs.Ythhcaaellhdkiaa.SX
open Go Go.RowKit Go.Proofs.Ythhcaaellhdkiaa
set_option linter.unusedVariables false

/-- What a slice of rows of k cells is made of. -/
structure TyK (P : Program) (t e k : TypeId) (z : Value) (bytes : Nat) : Prop where
  sl : P.underlying t = some (.slice e)
  info : (P.info? e).map (fun i => (i.zero, i.size, i.bytes)) = some (some z, k, bytes)
  zk : z.cells.size = k
  k0 : 0 < k
  b0 : 0 < bytes
section
variable {α : Type} {enc : α → List Value} {k : Nat} {P : Program} {w w' w1 : World} {s s' : Sl} {xs ys : List α} {t e ty base bytes : Nat} {z : Value}

/-! ### lists of rows -/
theorem flat_len (hk : ∀ x, (enc x).length = k) : ∀ xs : List α, (xs.flatMap enc).length = xs.length * k
  | [] => by simp
  | x :: xs => by rw [List.flatMap_cons, List.length_append, hk, flat_len hk xs, List.length_cons, Nat.add_mul]; omega
theorem flat_take (hk : ∀ x, (enc x).length = k) : ∀ (xs : List α) (i : Nat), (xs.flatMap enc).take (i * k) = (xs.take i).flatMap enc
  | [], i => by simp
  | x :: xs, 0 => by simp
  | x :: xs, i + 1 => by
    rw [List.flatMap_cons, List.take_append, hk, List.take_of_length_le (by rw [hk, Nat.add_mul]; omega), show (i + 1) * k - k = i * k by rw [Nat.add_mul]; omega, flat_take hk xs i]
    simp
theorem flat_drop (hk : ∀ x, (enc x).length = k) : ∀ (xs : List α) (i : Nat), (xs.flatMap enc).drop (i * k) = (xs.drop i).flatMap enc
  | [], i => by simp
  | x :: xs, 0 => by simp
  | x :: xs, i + 1 => by
    rw [List.flatMap_cons, List.drop_append, hk, List.drop_eq_nil_of_le (by rw [hk, Nat.add_mul]; omega), show (i + 1) * k - k = i * k by rw [Nat.add_mul]; omega, flat_drop hk xs i]
    simp
theorem flat_get (hk : ∀ x, (enc x).length = k) (xs : List α) (i : Nat) (hi : i < xs.length) (r : Nat) (hr : r < k) : (xs.flatMap enc)[i * k + r]? = (enc xs[i])[r]? := by
  have h1 : (xs.flatMap enc)[i * k + r]? = ((xs.flatMap enc).drop (i * k))[r]? := by rw [List.getElem?_drop]
  rw [h1, flat_drop hk, List.drop_eq_getElem_cons hi, List.flatMap_cons, List.getElem?_append_left (by rw [hk]; exact hr)]
theorem flat_set (hk : ∀ x, (enc x).length = k) (xs : List α) (i : Nat) (hi : i < xs.length) (y : α) : (xs.set i y).flatMap enc = (xs.flatMap enc).take (i * k) ++ enc y ++ (xs.flatMap enc).drop (i * k + k) := by
  have e : i * k + k = (i + 1) * k := by rw [Nat.add_mul]; omega
  rw [e, flat_take hk, flat_drop hk]
  have hs : xs.set i y = xs.take i ++ y :: xs.drop (i + 1) := by
    rw [List.set_eq_take_append_cons_drop, if_pos hi]
  rw [hs, List.flatMap_append, List.flatMap_cons, List.append_assoc]

/-! ### cells -/
theorem cellsAt_get {a : Addr} : ∀ {i : Nat} {vs : List Value}, CellsAt w a i vs ↔ ∀ j u, vs[j]? = some u → w.cell? (a.add (i + j)) = some u
  | i, [] => ⟨fun _ j u h => by simp at h, fun _ => trivial⟩
  | i, v :: vs => ⟨fun h j u hj => h.get j u hj, fun h => ⟨by simpa using h 0 v rfl, cellsAt_get.2 (fun j u hj => by
      have := h (j + 1) u (by simpa using hj)
      rw [show i + 1 + j = i + (j + 1) by omega]; exact this)⟩⟩
theorem cellsAt_shift {a : Addr} {p i : Nat} {vs : List Value} : CellsAt w (a.add p) i vs ↔ CellsAt w a (p + i) vs := by
  rw [cellsAt_get, cellsAt_get]
  constructor
  · intro h j u hj
    have := h j u hj
    rw [add_add] at this
    rw [Nat.add_assoc]; exact this
  · intro h j u hj
    have := h j u hj
    rw [add_add]
    rw [Nat.add_assoc] at this; exact this
theorem setCells_shift {a : Addr} {p : Nat} : ∀ {i : Nat} {vs : List Value} {w : World}, setCells w (a.add p) i vs = setCells w a (p + i) vs
  | i, [], w => rfl
  | i, v :: vs, w => by
    simp only [setCells, add_add]
    rw [setCells_shift, Nat.add_assoc]
theorem hasCells_shift {a : Addr} {p : Nat} : ∀ {i n : Nat}, HasCells w (a.add p) i n ↔ HasCells w a (p + i) n
  | i, 0 => Iff.rfl
  | i, n + 1 => by
    simp only [HasCells, add_add]
    rw [hasCells_shift, Nat.add_assoc]

/-! ### reading -/
def RdC {α : Type} (enc : α → List Value) (k : Nat) (w : World) (s : Sl) (xs : List α) : Prop :=
  xs.length = s.n ∧ s.n ≤ s.c ∧ s.c ≤ maxLen ∧ (0 < s.n → ∃ a, s.a = some a ∧ ∀ j (h : j < xs.length), CellsAt w (a.add (j * k)) 0 (enc xs[j]))
theorem RdC.at (h : RdC enc k w s xs) (i : Nat) (hi : i < xs.length) : ∃ a, s.a = some a ∧ CellsAt w (a.add (i * k)) 0 (enc xs[i]) := by
  obtain ⟨a, h1, h2⟩ := h.2.2.2 (by have := h.1; omega)
  exact ⟨a, h1, h2 i hi⟩
theorem CellsAt.belowK {a : Addr} {i : Nat} {vs : List Value} (hb : Below w.heap.size w w') (h : CellsAt w a i vs) : CellsAt w' a i vs := cellsAt_get.2 fun j u hj => by
  have := h.get j u hj
  rw [hb.cell (World.block_lt_of_cell? w _ this)]; exact this
theorem RdC.below (h : RdC enc k w s xs) (hb : Below w.heap.size w w') : RdC enc k w' s xs :=
  ⟨h.1, h.2.1, h.2.2.1, fun h0 => by
    obtain ⟨a, h1, h2⟩ := h.2.2.2 h0
    exact ⟨a, h1, fun j hj => (h2 j hj).belowK hb⟩⟩
theorem RdC.take (h : RdC enc k w s xs) (i : Nat) (hi : i ≤ xs.length) : RdC enc k w ⟨s.a, i, s.c⟩ (xs.take i) := by
  have h1 := h.1
  have h2 := h.2.1
  refine ⟨by simp; omega, by show i ≤ s.c; omega, h.2.2.1, fun h0 => ?_⟩
  obtain ⟨a, ha, hc⟩ := h.2.2.2 (by show 0 < s.n; simp at h0; omega)
  exact ⟨a, ha, fun j hj => by simp at hj; simpa using hc j (by omega)⟩
theorem RdC.drop (h : RdC enc k w s xs) (i : Nat) (hi : i ≤ xs.length) : RdC enc k w ⟨if s.c = i then s.a else s.a.map (·.add (i * k)), s.n - i, s.c - i⟩ (xs.drop i) := by
  have h1 := h.1
  have h2 := h.2.1
  refine ⟨by simp; omega, by show s.n - i ≤ s.c - i; omega, by have := h.2.2.1; show s.c - i ≤ maxLen; omega, fun h0 => ?_⟩
  have h0' : 0 < s.n - i := h0
  obtain ⟨a, ha, hc⟩ := h.2.2.2 (by omega)
  refine ⟨a.add (i * k), ?_, fun j hj => ?_⟩
  · show (if s.c = i then s.a else s.a.map (·.add (i * k))) = _
    rw [if_neg (by omega), ha]; rfl
  · simp at hj
    rw [add_add, ← Nat.add_mul]
    have := hc (i + j) (by omega)
    simpa using this
theorem RdC.flat (hk : ∀ x, (enc x).length = k) (hk0 : 0 < k) (h : RdC enc k w s xs) {ad : Addr} (ha : s.a = some ad) (h0 : 0 < s.n) : ∀ j u, (xs.flatMap enc)[j]? = some u → w.cell? (ad.add j) = some u := by
  intro j u hj
  obtain ⟨a, ha', hc⟩ := h.2.2.2 h0
  rw [ha] at ha'; cases ha'
  have hlt : j < xs.length * k := by
    have := (List.getElem?_eq_some_iff.1 hj).1
    rwa [flat_len hk] at this
  have hi : j / k < xs.length := Nat.div_lt_of_lt_mul (by rw [Nat.mul_comm]; exact hlt)
  have hr : j % k < k := Nat.mod_lt _ hk0
  have hjj : j / k * k + j % k = j := by rw [Nat.mul_comm]; exact Nat.div_add_mod j k
  have hg := flat_get hk xs (j / k) hi (j % k) hr
  rw [hjj, hj] at hg
  have := (hc (j / k) hi).get (j % k) u hg.symm
  rw [add_add, Nat.zero_add, hjj] at this
  exact this

/-! ### owning -/
def OwnK {α : Type} (enc : α → List Value) (k e base : Nat) (w : World) (s : Sl) (xs : List α) : Prop := w.ownsRow base e k s.v s.n (xs.flatMap enc)
theorem OwnK.len (hk : ∀ x, (enc x).length = k) (hk0 : 0 < k) (h : OwnK enc k e base w s xs) : xs.length = s.n := by
  have h1 := h.1
  rw [flat_len hk] at h1
  exact Nat.eq_of_mul_eq_mul_right hk0 h1
theorem OwnK.form (hk : ∀ x, (enc x).length = k) (hk0 : 0 < k) (h : OwnK enc k e base w s xs) : (s = ⟨none, 0, 0⟩ ∧ xs = []) ∨ ∃ g cap cur, s = ⟨some ⟨g, 0, none⟩, xs.length, cap⟩ ∧ base ≤ g ∧ w.heap[g]? = some (.cells cur e (0, 0)) ∧ xs.length ≤ cap ∧ cap ≤ maxLen ∧ cur.size = cap * k ∧ cur.toList.take (xs.length * k) = xs.flatMap enc := by
  have hl := h.len hk hk0
  rcases h.2 with ⟨h1, h2⟩ | ⟨g, cap, cur, h1, h2, h3, h4, h5, h6, h7⟩
  · left
    obtain ⟨a, n, c⟩ := s
    simp only [Sl.v, Value.slice.injEq] at h1
    obtain ⟨rfl, rfl, rfl⟩ := h1
    exact ⟨rfl, List.eq_nil_of_length_eq_zero hl⟩
  · right
    obtain ⟨a, n, c⟩ := s
    simp only [Sl.v, Value.slice.injEq] at h1 h4 h6 h7 hl
    obtain ⟨rfl, _, rfl⟩ := h1
    exact ⟨g, c, cur, by rw [hl], h2, h3, by omega, h5, h6, by rw [hl]; exact h7⟩
theorem OwnK.rd (hk : ∀ x, (enc x).length = k) (hk0 : 0 < k) (h : OwnK enc k e base w s xs) : RdC enc k w s xs := by
  rcases h.form hk hk0 with ⟨rfl, rfl⟩ | ⟨g, cap, cur, rfl, h2, h3, h4, h5, h6, h7⟩
  · exact ⟨rfl, Nat.le_refl _, by simp [maxLen], fun h => absurd h (by simp)⟩
  · refine ⟨rfl, h4, h5, fun h0 => ⟨_, rfl, fun j hj => cellsAt_get.2 fun r u hr => ?_⟩⟩
    have hrk : r < k := by
      have := (List.getElem?_eq_some_iff.1 hr).1
      rwa [hk] at this
    rw [add_add, add_lit, cell_of_row w g _ cur e (0, 0) h3, Nat.zero_add]
    have h8 : (cur.toList.take (xs.length * k))[j * k + r]? = (xs.flatMap enc)[j * k + r]? := by rw [h7]
    have hlt : j * k + r < xs.length * k := by
      have : (j + 1) * k ≤ xs.length * k := Nat.mul_le_mul_right k hj
      rw [Nat.add_mul] at this; omega
    rw [List.getElem?_take, if_pos hlt, flat_get hk xs j hj r hrk, hr] at h8
    simpa using h8
theorem OwnK.nil : OwnK enc k e base w ⟨none, 0, 0⟩ ([] : List α) := World.ownsRow_nil w base e k
theorem OwnK.kept (h : OwnK enc k e base w s xs) {row : Option Nat} (hg : w.grownBy w' row) (hne : s.blk = none ∨ s.blk ≠ row) : OwnK enc k e base w' s xs := World.ownsRow.kept h hg hne
theorem OwnK.below (h : OwnK enc k e base w s xs) (hb : Below w.heap.size w w') : OwnK enc k e base w' s xs := h.kept (grown_of_below' hb none) (by cases s.blk <;> simp)
theorem OwnK.lower (h : OwnK enc k e base w s xs) {b : Nat} (hb : b ≤ base) : OwnK enc k e b w s xs := by
  refine ⟨h.1, ?_⟩
  rcases h.2 with h1 | ⟨g, cap, cur, h1, h2, r⟩
  · exact .inl h1
  · exact .inr ⟨g, cap, cur, h1, by omega, r⟩
theorem OwnK.blk_ge (h : OwnK enc k e base w s xs) (b : Nat) (hb : s.blk = some b) : base ≤ b ∧ b < w.heap.size := World.ownsRow.lt h b hb
theorem OwnK.gr {S : Nat → Prop} (h : OwnK enc k e base w s xs) (hg : Gr S w w') (hn : ∀ b, s.blk = some b → ¬ S b) : OwnK enc k e base w' s xs := by
  refine ⟨h.1, ?_⟩
  rcases h.2 with h1 | ⟨g, cap, cur, h1, h2, h3, r⟩
  · exact .inl h1
  · refine .inr ⟨g, cap, cur, h1, h2, ?_, r⟩
    have hb : s.blk = some g := by unfold Sl.blk; rw [h1]; rfl
    exact hg.blk h3 (hn g hb)
structure ApK {α : Type} (enc : α → List Value) (k e base : Nat) (w : World) (s : Sl) (ys : List α) (s' : Sl) (w' : World) : Prop where
  own : OwnK enc k e base w' s' ys
  grown : w.grownBy w' s.blk
  blk : s'.blk = s.blk ∨ ∃ b, s'.blk = some b ∧ w.heap.size ≤ b
theorem ApK.below (h : ApK enc k e base w s ys s' w') (ho : OwnK enc k e base w s xs) (hb : base ≤ w.heap.size) {w0 : World} (hw : Below base w0 w) : Below base w0 w' :=
  hw.grown h.grown hb fun k hk => (ho.blk_ge k hk).1
theorem apK_many (hT : TyK P t e k z bytes) (hk : ∀ x, (enc x).length = k) (h1 : ∀ x : α, ∀ u ∈ enc x, u.oneCell' = true) (ho : OwnK enc k e base w s xs) (hr : RdC enc k w s' ys) (hb : base ≤ w.heap.size) (hl : (xs.length + ys.length) * bytes ≤ 140737488355328) :
    ∃ s2 w2, (Builtin.append_ #[t, t] ty #[.slice s.a s.n s.c, .slice s'.a s'.n s'.c]).run P w = .ok (.slice s2.a s2.n s2.c) w2 ∧ ApK enc k e base w s (xs ++ ys) s2 w2 := by
  obtain ⟨i0, hi, hz0, hz1, hz2⟩ := info_parts hT.info
  have hlen : xs.length + ys.length ≤ 140737488355328 := Nat.le_trans (Nat.le_mul_of_pos_right _ hT.b0) hl
  have hxl := ho.len hk hT.k0
  have hyl := hr.1
  rcases Nat.eq_zero_or_pos s'.n with h0 | h0
  · have hy : ys = [] := List.eq_nil_of_length_eq_zero (by omega)
    subst hy
    refine ⟨s, w, ?_, ⟨by simpa using ho, World.grownBy.refl w _, .inl rfl⟩⟩
    have hle : s.n ≤ s.c := (ho.rd hk hT.k0).2.1
    have hnil : s.a = none → s.n = 0 := fun hn => by
      rcases ho.form hk hT.k0 with ⟨rfl, _⟩ | ⟨g, cap, cur, rfl, _⟩
      · rfl
      · cases hn
    cases hsa : s.a <;> cases hs'a : s'.a <;>
      simp [Builtin.append_, run_underlying hT.sl, sizeOf, typeInfo, hi, Builtin.lenOf, h0, Builtin.firstCells, storeCells, loadCells, loadCellsFrom, hle]
  · obtain ⟨ad, had, hc⟩ := hr.2.2.2 h0
    have hcells := hr.flat hk hT.k0 had h0
    have h1' : ∀ u ∈ ys.flatMap enc, u.oneCell' = true := by
      intro u hu
      obtain ⟨x, _, hx⟩ := List.mem_flatMap.1 hu
      exact h1 x u hx
    obtain ⟨v1, w2, hrun, h2, h3, _, h5⟩ := run_append_own_at (P := P) w base t ty e i0 z k bytes hT.sl hi hz0 hz1 hz2 hT.zk hT.k0 s.v s.n (xs.flatMap enc) ho ad s'.n s'.c (ys.flatMap enc) (by rw [flat_len hk, hyl]) hcells
      h1' (by simp only [maxLen]; omega) (by rw [← hxl, ← hyl]; exact hl) hb
    have hv : ∃ s2 : Sl, v1 = s2.v ∧ s2.n = s.n + s'.n := by
      rcases h2.2 with ⟨h, hn⟩ | ⟨g, cap, cur, h, _⟩
      · exact ⟨⟨none, 0, 0⟩, h, by simpa using hn.symm⟩
      · exact ⟨⟨some ⟨g, 0, none⟩, s.n + s'.n, cap⟩, h, rfl⟩
    obtain ⟨s2, rfl, hn⟩ := hv
    refine ⟨s2, w2, by rw [had]; exact hrun, ⟨?_, h3, ?_⟩⟩
    · unfold OwnK; rw [hn, List.flatMap_append]; exact h2
    · rcases h5 with h5 | h5
      · exact .inl h5
      · exact .inr ⟨_, h5, Nat.le_refl _⟩
theorem apK_one (hT : TyK P t e k z bytes) (hk : ∀ x, (enc x).length = k) (h1 : ∀ x : α, ∀ u ∈ enc x, u.oneCell' = true) (ho : OwnK enc k e base w s xs) (y : α) (hb : base ≤ w.heap.size) (hl : (xs.length + 1) * bytes ≤ 140737488355328) :
    ∃ s2 w2, (Builtin.append_ #[t, t] ty #[.slice s.a s.n s.c, .slice (some ⟨w.heap.size, 0, none⟩) 1 1]).run P (w.alloc (.cells (enc y).toArray e)) = .ok (.slice s2.a s2.n s2.c) w2 ∧ ApK enc k e base w s (xs ++ [y]) s2 w2 := by
  have hr : RdC enc k (w.alloc (.cells (enc y).toArray e)) ⟨some ⟨w.heap.size, 0, none⟩, 1, 1⟩ [y] := by
    refine ⟨rfl, Nat.le_refl _, by simp [maxLen], fun _ => ⟨_, rfl, fun j hj => ?_⟩⟩
    simp at hj
    subst hj
    refine cellsAt_get.2 fun r u hu => ?_
    have := cell_of_row (w.alloc (.cells (enc y).toArray e)) w.heap.size r (enc y).toArray e (0, 0) (heap_alloc_new w _)
    rw [add_add, add_lit, Nat.zero_mul, Nat.zero_add, Nat.zero_add, this]
    simpa using hu
  have ho' : OwnK enc k e base (w.alloc (.cells (enc y).toArray e)) s xs := World.ownsRow.alloc ho _
  obtain ⟨s2, w2, h2, h3⟩ := apK_many (ty := ty) hT hk h1 ho' hr (by simp; omega) (by simpa using hl)
  refine ⟨s2, w2, h2, ⟨h3.own, World.grownBy.trans (World.grownBy_alloc w _ _) h3.grown, ?_⟩⟩
  rcases h3.blk with h | ⟨b, h, h'⟩
  · exact .inl h
  · exact .inr ⟨b, h, by simp at h'; omega⟩

/-! ### cuts -/
theorem cutK_hi (hT : TyK P t e k z bytes) (s : Sl) (hi : Int) (h : Nat) (hhi : hi = h) (hc : h ≤ s.c) :
    (Instr.sliceAt t (.slice s.a s.n s.c) none (some (.int .i64 hi)) none).run P w = .ok (.slice s.a h s.c) w := by
  obtain ⟨i0, hi0, hz0, hz1, hz2⟩ := info_parts hT.info
  subst hhi
  have hel : P.elem t = e := by simp [Program.elem, hT.sl]
  have ha : (s.a.map fun x => x.add 0) = s.a := by cases s.a <;> simp [Addr.add]
  rw [sliceAt_eq hT.sl, run_slice_h w t s.a s.n s.c (by rw [hel]; exact hT.sl) .i64 (h : Int) (by omega) (by omega), hel]
  simp [sizeOf, typeInfo, hi0, hz1, sliced, Result.andThen, ha]
theorem cutK_lo (hT : TyK P t e k z bytes) (s : Sl) (lo : Int) (l : Nat) (hlo : lo = l) (hln : l ≤ s.n) :
    (Instr.sliceAt t (.slice s.a s.n s.c) (some (.int .i64 lo)) none none).run P w = .ok (.slice (if s.c = l then s.a else s.a.map (·.add (l * k))) (s.n - l) (s.c - l)) w := by
  obtain ⟨i0, hi0, hz0, hz1, hz2⟩ := info_parts hT.info
  subst hlo
  have hel : P.elem t = e := by simp [Program.elem, hT.sl]
  rw [sliceAt_eq hT.sl, run_slice_l w t s.a s.n s.c (by rw [hel]; exact hT.sl) .i64 (l : Int) (by omega) (by omega), hel]
  simp [sizeOf, typeInfo, hi0, hz1, sliced, Result.andThen]

/-! ### setting cells of one row -/
theorem rowN_part {g e : Nat} : ∀ (vs : List Value) (i : Nat) (w : World) (cs : Array Value), w.heap[g]? = some (.cells cs e (0, 0)) → i + vs.length ≤ cs.size →
    (setCells w (⟨g, 0, none⟩ : Addr) i vs).heap[g]? = some (.cells (cs.toList.take i ++ vs ++ cs.toList.drop (i + vs.length)).toArray e (0, 0)) ∧ w.grownBy (setCells w (⟨g, 0, none⟩ : Addr) i vs) (some g)
  | [], i, w, cs, h, hl => by
    simp only [setCells, List.append_nil, List.length_nil, Nat.add_zero, List.take_append_drop]
    exact ⟨h, World.grownBy.refl _ _⟩
  | v :: vs, i, w, cs, h, hl => by
    simp only [setCells, add_lit]
    simp only [List.length_cons] at hl
    have h1 := row_set (j := i) h v
    obtain ⟨h2, h3⟩ := rowN_part vs (i + 1) (w.setCell ⟨g, i, none⟩ v) (cs.setIfInBounds i v) h1 (by simp; omega)
    refine ⟨?_, (grown_set w ⟨g, i, none⟩ v).trans h3⟩
    rw [h2]
    congr 3
    have : i < cs.toList.length := by simp; omega
    have e1 : (cs.setIfInBounds i v).toList.take (i + 1) = cs.toList.take i ++ [v] := by
      rw [Array.toList_setIfInBounds, List.take_add_one, List.take_set, List.set_eq_of_length_le (by simp; omega)]
      simp [show i < cs.size by omega]
    have e2 : (cs.setIfInBounds i v).toList.drop (i + 1 + vs.length) = cs.toList.drop (i + (v :: vs).length) := by
      rw [Array.toList_setIfInBounds, List.drop_set, if_pos (by omega)]
      congr 1; simp; omega
    rw [e1, e2, List.append_assoc _ [v]]; rfl
theorem splice {β : Type} (X C : List β) {a L : Nat} (hX : X.length = a) (hL : a ≤ L) : (X ++ C.drop a).take L = X ++ (C.take L).drop a := by
  rw [List.take_append, List.take_of_length_le (by omega), List.drop_take, hX]
/-- the tail of element i, from its p-th cell on -/
theorem OwnK.setTail (hk : ∀ x, (enc x).length = k) (hk0 : 0 < k) (ho : OwnK enc k e base w s xs) (i : Nat) (hi : i < xs.length) (p : Nat) (vs : List Value) (y : α) (hp : p + vs.length = k) (hy : enc y = (enc xs[i]).take p ++ vs) :
    ∃ a, s.a = some a ∧ s.blk = some a.block ∧ HasCells w ((a.add (i * k)).add p) 0 vs.length ∧ OwnK enc k e base (setCells w ((a.add (i * k)).add p) 0 vs) s (xs.set i y) ∧ w.grownBy (setCells w ((a.add (i * k)).add p) 0 vs) s.blk := by
  rcases ho.form hk hk0 with ⟨rfl, rfl⟩ | ⟨g, cap, cur, rfl, h2, h3, h4, h5, h6, h7⟩
  · simp at hi
  · have hle : (i + 1) * k ≤ cap * k := Nat.mul_le_mul_right k (by omega)
    have hle' : (i + 1) * k = i * k + k := by rw [Nat.add_mul]; omega
    have hsz : i * k + p + vs.length ≤ cur.size := by omega
    refine ⟨_, rfl, rfl, ?_, ?_, ?_⟩
    · rw [hasCells_shift, hasCells_shift]
      exact rowN_has h3 _ _ (by omega)
    · rw [setCells_shift, setCells_shift, show i * k + (p + 0) = i * k + p by omega]
      obtain ⟨g1, g2⟩ := rowN_part vs (i * k + p) w cur h3 hsz
      refine ⟨by rw [flat_len hk]; simp, .inr ⟨g, cap, _, rfl, h2, g1, by simpa using h4, h5, ?_, ?_⟩⟩
      · simp only [List.size_toArray, List.length_append, List.length_take, List.length_drop, Array.length_toList]
        omega
      · show List.take (xs.length * k) _ = _
        rw [flat_set hk xs i hi y, hy, ← h7]
        have hlx : (i + 1) * k ≤ xs.length * k := Nat.mul_le_mul_right k hi
        have hcl : cur.toList.length = cap * k := by simpa using h6
        have hxc : xs.length * k ≤ cap * k := Nat.mul_le_mul_right k h4
        have e1 : (cur.toList.take (i * k + p)) = cur.toList.take (i * k) ++ (enc xs[i]).take p := by
          have hd : (enc xs[i]).take p = ((cur.toList.take (xs.length * k)).drop (i * k)).take p := by
            rw [h7, flat_drop hk, List.drop_eq_getElem_cons hi, List.flatMap_cons, List.take_append_of_le_length (by rw [hk]; omega)]
          rw [hd, List.drop_take, List.take_take, List.take_add, show min p (xs.length * k - i * k) = p by omega]
        rw [e1, List.take_take, show min (i * k) (xs.length * k) = i * k by omega]
        have hel : ((enc xs[i]).take p).length = p := by rw [List.length_take, hk]; omega
        have hX : (cur.toList.take (i * k) ++ (enc xs[i]).take p ++ vs).length = i * k + k := by
          rw [List.length_append, List.length_append, hel, List.length_take, hcl]; omega
        rw [show i * k + p + vs.length = i * k + k by omega, splice _ _ hX (by omega)]
        simp only [List.append_assoc]
    · rw [setCells_shift, setCells_shift]
      exact (rowN_part vs (i * k + (p + 0)) w cur h3 (by omega)).2
end
end Go.Proofs.Ythhcaaellhdkiaa.SX
