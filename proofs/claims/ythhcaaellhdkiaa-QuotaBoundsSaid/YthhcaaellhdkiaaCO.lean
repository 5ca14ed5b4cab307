/- The law BitsWrites, walked: two writers in turns. -/
import Derived.Test.YthhcaaellhdkiaaCN
import Derived.Test.YthhcaaellhdkiaaGB7
namespace Go.Proofs.Ythhcaaellhdkiaa
open Go Go.RowKit Go.Proofs.Ythhcaaellhdkiaa.SX
set_option linter.unusedVariables false

/-! ### a slice of rows of cells -/
theorem SX.CellsAt.below {w w' : World} (hb : Below w.heap.size w w') {a : Addr} : ∀ {i : Nat} {vs : List Value}, CellsAt w a i vs → CellsAt w' a i vs
  | _, [], _ => trivial
  | i, v :: vs, h => ⟨by rw [hb.cell (World.block_lt_of_cell? w _ h.1)]; exact h.1, SX.CellsAt.below hb h.2⟩
def RdR {α : Type} (enc : α → List Value) (k : Nat) (w : World) (s : Sl) (xs : List α) : Prop :=
  xs.length = s.n ∧ s.n ≤ 9223372036854775807 ∧ (0 < s.n → ∃ a, s.a = some a ∧ ∀ j (h : j < xs.length), CellsAt w (a.add (j * k)) 0 (enc xs[j]))
theorem RdR.below {α : Type} {enc : α → List Value} {k : Nat} {w w' : World} {s : Sl} {xs : List α} (h : RdR enc k w s xs) (hb : Below w.heap.size w w') : RdR enc k w' s xs :=
  ⟨h.1, h.2.1, fun h0 => by
    obtain ⟨a, h1, h2⟩ := h.2.2 h0
    exact ⟨a, h1, fun j hj => (h2 j hj).below hb⟩⟩
theorem RdR.at {α : Type} {enc : α → List Value} {k : Nat} {w : World} {s : Sl} {xs : List α} (h : RdR enc k w s xs) (i : Nat) (hi : i < xs.length) : ∃ a, s.a = some a ∧ CellsAt w (a.add (i * k)) 0 (enc xs[i]) := by
  obtain ⟨a, h1, h2⟩ := h.2.2 (by have := h.1; omega)
  exact ⟨a, h1, h2 i hi⟩

/-- a step of the law -/
structure BOp where
  kd : Int
  on : Int
  v : Int
  n : Int
def BOp.enc (x : BOp) : List Value := [.int .i64 x.kd, .int .i64 x.on, .int .u64 x.v, .int .i64 x.n]

def Half (w : World) (g : Nat) (fp : Nat → Prop) (n : Nat) : Prop := ∃ oa ob sl mark len l fa fb, l.length ≤ n ∧ Pw w g oa ob sl mark len l l fa fb fp
section
variable {w w' w5 w7 : World} {g n : Nat} {fp S : Nat → Prop} {oa ob : Addr}
theorem Half.keep (h : Half w g fp n) (hg : Gr S w w') (hn : ∀ k, fp k → ¬ S k) : Half w' g fp n := by
  obtain ⟨oa, ob, sl, mark, len, l, fa, fb, hl, h⟩ := h
  exact ⟨oa, ob, sl, mark, len, l, fa, fb, hl, h.keep hg hn⟩
theorem Half.more (h : Half w g fp n) {m : Nat} (hm : n ≤ m) : Half w g fp m := by
  obtain ⟨oa, ob, sl, mark, len, l, fa, fb, hl, h⟩ := h
  exact ⟨oa, ob, sl, mark, len, l, fa, fb, by omega, h⟩
theorem Half.lt (h : Half w g fp n) : ∀ k, fp k → k < w.heap.size := by
  obtain ⟨oa, ob, sl, mark, len, l, fa, fb, hl, h⟩ := h
  exact h.lt
theorem Half.head (h : Half w g fp n) : ∃ oa, w.cell? ⟨g, 0, none⟩ = some (.pointer (some oa)) := by
  obtain ⟨oa, ob, sl, mark, len, l, fa, fb, hl, h⟩ := h
  exact ⟨oa, h.pc.c0⟩
theorem Half.step (h : Half w g fp n) (hn : n ≤ 900000) {x : BOp} (hv0 : 0 ≤ x.v) (hv1 : x.v < 18446744073709551616) (hx : x.n ≤ 9223372036854775807) :
    Calls Try.prog 35 #[.pointer (some ⟨g, 0, none⟩), .agg #[.int .i64 x.kd, .int .i64 x.on, .int .u64 x.v, .int .i64 x.n]] w (fun e w1 => ∃ (r0 : Bool), e = .returned (.bool r0 : Value) ∧ (r0 = true ∧ ∃ fq, Half w1 g fq (n + 64) ∧ Gr fp w w1 ∧ ∀ k, fq k → fp k ∨ w.heap.size ≤ k)) := by
  obtain ⟨oa, ob, sl, mark, len, l, fa, fb, hl, h⟩ := h
  refine (C35 h (by omega) hv0 hv1 hx).mono ?_
  rintro _ w1 ⟨_, rfl, rfl, l', sl', mark', len', fa', fb', fq, hl', p, hg, hf⟩
  exact ⟨_, rfl, rfl, fq, ⟨oa, ob, sl', mark', len', l', fa', fb', by omega, p⟩, hg, hf⟩
theorem Half.bytes (h : Half w g fp n) (hn : n ≤ 900000) :
    Calls Try.prog 36 #[.pointer (some ⟨g, 0, none⟩)] w (fun e w1 => ∃ (r0 : Bool), e = .returned (.bool r0 : Value) ∧ (r0 = true ∧ ∃ fq, Half w1 g fq n ∧ Gr fp w w1 ∧ ∀ k, fq k → fp k ∨ w.heap.size ≤ k)) := by
  obtain ⟨oa, ob, sl, mark, len, l, fa, fb, hl, h⟩ := h
  refine (C36 h (by omega)).mono ?_
  rintro _ w1 ⟨_, rfl, rfl, sl', mark', fq, p, hg, hf⟩
  exact ⟨_, rfl, rfl, fq, ⟨oa, ob, sl', mark', len, l, fa, fb, by omega, p⟩, hg, hf⟩
theorem Half.make (ha : Wr w5 oa [] (fun k => k = w.heap.size)) (hb : Below w5.heap.size w5 w7) (hf : Wf w7 ob [] (fun k => k = w5.heap.size)) :
    Half (w7.alloc (.cells #[.pointer (some oa), .pointer (some ob), .slice none 0 0, .int .u8 0, .int .i64 0] 65)) w7.heap.size (fun k => w.heap.size ≤ k ∧ k < w7.heap.size + 1) 0 := by
  have s1 := ha.lt w.heap.size rfl
  have s2 := hf.lt w5.heap.size rfl
  have ga := gr_alloc (S := fun _ => False) w7 #[.pointer (some oa), .pointer (some ob), .slice none 0 0, .int .u8 0, .int .i64 0] 65
  refine ⟨oa, ob, ⟨none, 0, 0⟩, 0, 0, [], _, _, Nat.zero_le _, ⟨⟨heap_alloc_new w7 _, (ha.keep (S := fun _ => False) (Gr.below hb) (fun _ _ h => h)).keep ga (fun _ _ h => h), hf.keep ga (fun _ _ h => h), ?_, ?_, ?_⟩, ⟨0, Own.nil⟩, fun b hb => (nomatch hb), ?_, ?_, ?_, ?_, by omega, by omega⟩⟩
  · intro k hk hk'; omega
  · show ¬ _ = _; omega
  · show ¬ _ = _; omega
  · intro k hk; omega
  · intro k hk; omega
  · show _ ∧ _; omega
  · intro k hk; simp; omega
end

structure Two (W : World) (gB g0 g1 n : Nat) (w : World) : Prop where
  st : ∃ f0 f1, Half w g0 f0 n ∧ Half w g1 f1 n ∧ (∀ k, f0 k → ¬ f1 k) ∧ ¬ f0 gB ∧ ¬ f1 gB ∧ (∀ k, f0 k → W.heap.size ≤ k) ∧ (∀ k, f1 k → W.heap.size ≤ k)
  row : w.heap[gB]? = some (.cells #[.pointer (some ⟨g0, 0, none⟩), .pointer (some ⟨g1, 0, none⟩)] 59 (0, 0))
  bel : Below W.heap.size W w
section
variable {W w w' : World} {gB g0 g1 n : Nat}
theorem Two.drawn (h : Two W gB g0 g1 n w) (m : Nat) : Two W gB g0 g1 n (w.drewN m) := by
  obtain ⟨⟨f0, f1, h0, h1, r⟩, hr, hb⟩ := h
  exact ⟨⟨f0, f1, h0.keep (gr_drew (S := fun _ => False) w m) (fun _ _ h => h), h1.keep (gr_drew (S := fun _ => False) w m) (fun _ _ h => h), r⟩, hr, below_draw hb m⟩
theorem Two.swap (h : Two W gB g0 g1 n w) {f0 : Nat → Prop} : True := trivial
theorem Two.up0 (h : Two W gB g0 g1 n w) {m : Nat} (hm : n ≤ m) {C : Array Value → FuncId → Prop} {g : FuncId} {args : Array Value}
    (hc : ∀ f0, Half w g0 f0 n → Calls Try.prog g args w (fun e w1 => ∃ (r0 : Bool), e = .returned (.bool r0 : Value) ∧ (r0 = true ∧ ∃ fq, Half w1 g0 fq m ∧ Gr f0 w w1 ∧ ∀ k, fq k → f0 k ∨ w.heap.size ≤ k))) :
    Calls Try.prog g args w (fun e w1 => ∃ (r0 : Bool), e = .returned (.bool r0 : Value) ∧ (r0 = true ∧ Two W gB g0 g1 m w1)) := by
  obtain ⟨⟨f0, f1, h0, h1, hd, n0, n1, b0, b1⟩, hr, hb⟩ := h
  have hgB := row_lt hr
  have sW := hb.size
  refine (hc f0 h0).mono ?_
  rintro _ w1 ⟨_, rfl, rfl, fq, hq, hg, hf⟩
  refine ⟨_, rfl, rfl, ⟨fq, f1, hq, (h1.keep hg (fun k hk hk' => hd k hk' hk)).more hm, fun k hk hk' => ?_, fun hk => ?_, n1, fun k hk => ?_, b1⟩, hg.blk hr n0, hb.trans (hg.toBelow hb.size b0)⟩
  · rcases hf k hk with h | h
    · exact hd k h hk'
    · have := h1.lt k hk'; omega
  · rcases hf _ hk with h | h
    · exact n0 h
    · omega
  · rcases hf k hk with h | h
    · exact b0 k h
    · omega
theorem Two.up1 (h : Two W gB g0 g1 n w) {m : Nat} (hm : n ≤ m) {g : FuncId} {args : Array Value}
    (hc : ∀ f1, Half w g1 f1 n → Calls Try.prog g args w (fun e w1 => ∃ (r0 : Bool), e = .returned (.bool r0 : Value) ∧ (r0 = true ∧ ∃ fq, Half w1 g1 fq m ∧ Gr f1 w w1 ∧ ∀ k, fq k → f1 k ∨ w.heap.size ≤ k))) :
    Calls Try.prog g args w (fun e w1 => ∃ (r0 : Bool), e = .returned (.bool r0 : Value) ∧ (r0 = true ∧ Two W gB g0 g1 m w1)) := by
  obtain ⟨⟨f0, f1, h0, h1, hd, n0, n1, b0, b1⟩, hr, hb⟩ := h
  have hgB := row_lt hr
  have sW := hb.size
  refine (hc f1 h1).mono ?_
  rintro _ w1 ⟨_, rfl, rfl, fq, hq, hg, hf⟩
  refine ⟨_, rfl, rfl, ⟨f0, fq, (h0.keep hg hd).more hm, hq, fun k hk hk' => ?_, n0, fun hk => ?_, b0, fun k hk => ?_⟩, hg.blk hr n1, hb.trans (hg.toBelow hb.size b1)⟩
  · rcases hf k hk' with h | h
    · exact hd k hk h
    · have := h0.lt k hk; omega
  · rcases hf _ hk with h | h
    · exact n1 h
    · omega
  · rcases hf k hk with h | h
    · exact b1 k h
    · omega
theorem Two.c0 (h : Two W gB g0 g1 n w) : w.cell? ((⟨gB, 0, none⟩ : Addr).add 0) = some (.pointer (some ⟨g0, 0, none⟩)) := by rw [add_lit, row_get h.row]; rfl
theorem Two.c1 (h : Two W gB g0 g1 n w) : w.cell? ((⟨gB, 0, none⟩ : Addr).add 1) = some (.pointer (some ⟨g1, 0, none⟩)) := by rw [add_lit, row_get h.row]; rfl
end
theorem and1_i64 (x : Int) : ibits .and .i64 x 1 = 0 ∨ ibits .and .i64 x 1 = 1 := by
  have h : ibits .and .i64 x 1 = IntKind.i64.wrap ((BitVec.ofInt 64 x &&& BitVec.ofInt 64 1).toNat) := rfl
  rw [h, BitVec.toNat_and, show (BitVec.ofInt 64 1).toNat = 2 ^ 1 - 1 from by decide, Nat.and_two_pow_sub_one_eq_mod]
  rcases Nat.mod_two_eq_zero_or_one (BitVec.ofInt 64 x).toNat with h | h
  · left; rw [show (2 : Nat) ^ 1 = 2 from rfl, h]; decide
  · right; rw [show (2 : Nat) ^ 1 = 2 from rfl, h]; decide
theorem F7_spec {w : World} {script : Sl} {ops : List BOp} (hs : RdR BOp.enc 4 w script ops) (ho : ∀ x ∈ ops, 0 ≤ x.v ∧ x.v < 18446744073709551616 ∧ x.n ≤ 9223372036854775807) : F7 script (fun r w1 => r = true ∧ Below w.heap.size w w1) w := by
  unfold F7
  have hsn := hs.1
  refine (C32 w).mono ?_
  rintro _ w3 ⟨_, rfl, rfl, b3⟩
  refine ⟨_, rfl, (C33 w3).mono ?_⟩
  rintro _ w5 ⟨_, rfl, rfl, hwr5, b5⟩
  refine ⟨_, rfl, (C34 w5).mono ?_⟩
  rintro _ w7 ⟨_, rfl, rfl, hwf7, b7⟩
  refine ⟨_, rfl, ?_⟩
  rintro _ rfl
  have h8 := Half.make hwr5 b7 hwf7
  have z8 : (w7.alloc (.cells #[.pointer (some ⟨w3.heap.size, 0, none⟩), .pointer (some ⟨w5.heap.size, 0, none⟩), .slice none 0 0, .int .u8 0, .int .i64 0] 65)).heap.size = w7.heap.size + 1 := by simp
  have B8' : Below w7.heap.size w7 (w7.alloc (.cells #[.pointer (some ⟨w3.heap.size, 0, none⟩), .pointer (some ⟨w5.heap.size, 0, none⟩), .slice none 0 0, .int .u8 0, .int .i64 0] 65)) := (Below.refl _ _).alloc (Nat.le_refl _) _
  generalize w7.alloc (.cells #[.pointer (some ⟨w3.heap.size, 0, none⟩), .pointer (some ⟨w5.heap.size, 0, none⟩), .slice none 0 0, .int .u8 0, .int .i64 0] 65) = w8 at h8 z8 B8' ⊢
  refine (C33 w8).mono ?_
  rintro _ w10 ⟨_, rfl, rfl, hwr10, b10⟩
  refine ⟨_, rfl, (C34 w10).mono ?_⟩
  rintro _ w12 ⟨_, rfl, rfl, hwf12, b12⟩
  refine ⟨_, rfl, ?_⟩
  rintro _ rfl
  have h13 := Half.make hwr10 b12 hwf12
  have z13 : (w12.alloc (.cells #[.pointer (some ⟨w8.heap.size, 0, none⟩), .pointer (some ⟨w10.heap.size, 0, none⟩), .slice none 0 0, .int .u8 0, .int .i64 0] 65)).heap.size = w12.heap.size + 1 := by simp
  have B13 : Below w12.heap.size w12 (w12.alloc (.cells #[.pointer (some ⟨w8.heap.size, 0, none⟩), .pointer (some ⟨w10.heap.size, 0, none⟩), .slice none 0 0, .int .u8 0, .int .i64 0] 65)) := (Below.refl _ _).alloc (Nat.le_refl _) _
  generalize w12.alloc (.cells #[.pointer (some ⟨w8.heap.size, 0, none⟩), .pointer (some ⟨w10.heap.size, 0, none⟩), .slice none 0 0, .int .u8 0, .int .i64 0] 65) = w13 at h13 z13 B13 ⊢
  rintro _ rfl
  have row14 := heap_alloc_new w13 (.cells #[.pointer (some ⟨w7.heap.size, 0, none⟩), .pointer (some ⟨w12.heap.size, 0, none⟩)] 59)
  have B14 : Below w13.heap.size w13 (w13.alloc (.cells #[.pointer (some ⟨w7.heap.size, 0, none⟩), .pointer (some ⟨w12.heap.size, 0, none⟩)] 59)) := (Below.refl _ _).alloc (Nat.le_refl _) _
  generalize w13.alloc (.cells #[.pointer (some ⟨w7.heap.size, 0, none⟩), .pointer (some ⟨w12.heap.size, 0, none⟩)] 59) = w14 at row14 B14 ⊢
  have s3 := b3.size
  have s5 := b5.size
  have s7 := b7.size
  have s10 := b10.size
  have s12 := b12.size
  have B8 : Below w8.heap.size w8 w14 := (b10.trans (b12.mono b10.size)).trans ((B13.trans (B14.mono B13.size)).mono (by omega))
  have Bel : Below w.heap.size w w14 := b3.trans ((b5.trans ((b7.trans ((B8'.trans (B8.mono (by omega))).mono (by omega))).mono (by omega))).mono (by omega))
  have T : Two w w13.heap.size w7.heap.size w12.heap.size 0 w14 := by
    refine ⟨⟨_, _, h8.keep (S := fun _ => False) (Gr.below B8) (fun _ _ h => h), h13.keep (S := fun _ => False) (Gr.below B14) (fun _ _ h => h), ?_, ?_, ?_, ?_, ?_⟩, row14, Bel⟩
    · intro k hk hk'; omega
    · omega
    · omega
    · intro k hk; omega
    · intro k hk; omega
  have hd0 : ∃ oa, w14.cell? ⟨w7.heap.size, 0, none⟩ = some (.pointer (some oa)) := by obtain ⟨f0, f1, h0, h1, _⟩ := T.st; exact h0.head
  have hd1 : ∃ oa, w14.cell? ⟨w12.heap.size, 0, none⟩ = some (.pointer (some oa)) := by obtain ⟨f0, f1, h0, h1, _⟩ := T.st; exact h1.head
  obtain ⟨oa0, hd0⟩ := hd0
  obtain ⟨oa1, hd1⟩ := hd1
  refine ⟨(fun h => nomatch h), fun _ => ⟨by omega, by omega, _, rfl, _, T.c0, _, rfl, _, hd0, (fun h => nomatch h), fun _ => ⟨by omega, by omega, _, rfl, _, T.c1, _, rfl, _, hd1, (fun h => nomatch h), fun _ => ?_⟩⟩⟩
  generalize hgB : w13.heap.size = gB at T
  generalize w7.heap.size = g0 at T ⊢
  generalize w12.heap.size = g1 at T ⊢
  clear hd0 hd1 Bel B8 B14 row14 h13 h8 hwr5 hwf7 hwr10 hwf12 B13 B8'
  refine ⟨fun i wr => ∃ j : Nat, i = (j : Int) ∧ j ≤ 1000 ∧ j ≤ ops.length ∧ Two w gB g0 g1 (64 * j) wr, fun i _ => (1000 - i).toNat, ⟨0, rfl, by omega, by omega, T⟩, ?_⟩
  rintro _ wr ⟨j, rfl, hj, hjo, T⟩
  have fin : ∀ K : Bool → Bool → World → Prop, (∀ w1, Below w.heap.size w w1 → K true true w1) →
      (0 : Int) ≤ 0 ∧ (0 : Int) < (2 : Int) ∧ ∃ (a_37 : Addr), some ⟨gB, 0, none⟩ = some a_37 ∧
        ∃ (t67_38 : Option Addr), wr.cell? (a_37.add (Int.toNat 0)) = some (.pointer t67_38) ∧
          Calls Try.prog 36 #[.pointer t67_38] wr fun e w_40 => ∃ (t68_39 : Bool), e = .returned (.bool t68_39 : Value) ∧
            (0 : Int) ≤ 1 ∧ (1 : Int) < (2 : Int) ∧ ∃ (a_41 : Addr), some ⟨gB, 0, none⟩ = some a_41 ∧
              ∃ (t71_42 : Option Addr), w_40.cell? (a_41.add (Int.toNat 1)) = some (.pointer t71_42) ∧
                Calls Try.prog 36 #[.pointer t71_42] w_40 fun e w_44 => ∃ (t72_43 : Bool), e = .returned (.bool t72_43 : Value) ∧ K t68_39 t72_43 w_44 := by
    intro K hK
    refine ⟨by omega, by omega, _, rfl, _, T.c0, (T.up0 (C := fun _ _ => True) (Nat.le_refl _) (fun f0 h0 => h0.bytes (by omega))).mono ?_⟩
    rintro _ w40 ⟨_, rfl, rfl, T40⟩
    refine ⟨_, rfl, by omega, by omega, _, rfl, _, T40.c1, (T40.up1 (Nat.le_refl _) (fun f0 h0 => h0.bytes (by omega))).mono ?_⟩
    rintro _ w44 ⟨_, rfl, rfl, T44⟩
    exact ⟨_, rfl, hK w44 T44.bel⟩
  unfold F7_l1
  rw [hgB]
  refine ⟨fun hlt => ⟨fun hth => ?_, fun _ => ?_⟩, fun _ => ?_⟩
  · rintro _ rfl
    have Td : Two w gB g0 g1 (64 * j) wr.drew := T.drawn 1
    have hjl : j < ops.length := by omega
    obtain ⟨a, ha, hc⟩ := (hs.below Td.bel).at j hjl
    have hon := hc.get 1 (.int .i64 ops[j].on) rfl
    have hox := ho ops[j] (List.getElem_mem hjl)
    refine ⟨by omega, by omega, a, ha, _, hon, ?_⟩
    have nxt : ∀ w1, Two w gB g0 g1 (64 * j + 64) w1 → ((∃ j' : Nat, IntKind.i64.wrap ((j : Int) + 1) = (j' : Int) ∧ j' ≤ 1000 ∧ j' ≤ ops.length ∧ Two w gB g0 g1 (64 * j') w1) ∧ (1000 - IntKind.i64.wrap ((j : Int) + 1)).toNat < (1000 - (j : Int)).toNat) := by
      intro w1 T1
      rw [w_i64 (by omega) (by omega)]
      exact ⟨⟨j + 1, by omega, by omega, by omega, by rw [show 64 * (j + 1) = 64 * j + 64 by omega]; exact T1⟩, by omega⟩
    have h900 : 64 * j ≤ 900000 := by omega
    generalize hN : 64 * j = N at Td h900 nxt
    generalize ops[j] = x at hc hon hox ⊢
    have st0 := Td.up0 (C := fun _ _ => True) (m := N + 64) (Nat.le_add_right _ _) (fun f0 h0 => Half.step (n := N) (x := x) h0 h900 hox.1 hox.2.1 hox.2.2)
    have st1 := Td.up1 (m := N + 64) (Nat.le_add_right _ _) (fun f0 h0 => Half.step (n := N) (x := x) h0 h900 hox.1 hox.2.1 hox.2.2)
    rcases and1_i64 x.on with h1 | h1
    · rw [h1]
      refine ⟨by omega, by omega, _, rfl, _, Td.c0, by omega, by omega, a, ha, x.kd, x.on, x.v, x.n, hc, st0.mono ?_⟩
      rintro _ w36 ⟨_, rfl, rfl, T36⟩
      exact ⟨_, rfl, (fun h => nomatch h), fun _ => nxt w36 T36⟩
    · rw [h1]
      refine ⟨by omega, by omega, _, rfl, _, Td.c1, by omega, by omega, a, ha, x.kd, x.on, x.v, x.n, hc, st1.mono ?_⟩
      rintro _ w36 ⟨_, rfl, rfl, T36⟩
      exact ⟨_, rfl, (fun h => nomatch h), fun _ => nxt w36 T36⟩
  · exact fin (fun a b wz => ((a = true → F7_j2 _ b wz) ∧ (a = false → F7_j2 _ false wz))) (fun w1 hb => ⟨fun _ => ⟨rfl, hb⟩, (fun h => nomatch h)⟩)
  · exact fin (fun a b wz => ((a = true → F7_j3 _ b wz) ∧ (a = false → F7_j3 _ false wz))) (fun w1 hb => ⟨fun _ => ⟨rfl, hb⟩, (fun h => nomatch h)⟩)
end Go.Proofs.Ythhcaaellhdkiaa
