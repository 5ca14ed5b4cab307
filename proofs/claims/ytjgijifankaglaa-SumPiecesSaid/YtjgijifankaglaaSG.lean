/- The document's digest: bytes with what goes behind them, block by block. -/
import Derived.Test.YtjgijifankaglaaSF
import Derived.Test.YtjgijifankaglaaGSc
namespace Go.Proofs.Ytjgijifankaglaa
open Go Go.RowKit Go.Proofs.Ytjgijifankaglaa.SX
set_option linter.unusedVariables false

def zp (m : Nat) : Nat := (120 - m % 64) % 64
def pb (N i : Int) : Int := IntKind.u8.wrap (ishr .u64 N i)
def be8 (N : Int) : List Int := [pb N 56, pb N 48, pb N 40, pb N 32, pb N 24, pb N 16, pb N 8, pb N 0]
/-- bytes and their end, N bits in all -/
def padN (bs : List Int) (N : Int) : List Int := bs ++ [128] ++ List.replicate (zp (bs.length + 1)) 0 ++ be8 N
def padS (bs : List Int) : List Int := padN bs (8 * (bs.length : Int))
theorem padN_len (bs : List Int) (N : Int) : (padN bs N).length = bs.length + 1 + zp (bs.length + 1) + 8 := by
  unfold padN be8; simp; omega
theorem padN_64 (bs : List Int) (N : Int) : (padN bs N).length % 64 = 0 := by
  rw [padN_len]; unfold zp; omega
theorem pb_range (N i : Int) : 0 ≤ pb N i ∧ pb N i ≤ 255 := by unfold pb; rw [wm_u8]; omega
theorem padN_bys {bs : List Int} (hb : bys bs) (N : Int) : bys (padN bs N) := by
  intro x hx
  unfold padN be8 at hx
  simp only [List.mem_append, List.mem_replicate, List.mem_cons, List.not_mem_nil, or_false] at hx
  rcases hx with ((h | h) | h) | h | h | h | h | h | h | h | h
  · exact hb x h
  · omega
  · omega
  all_goals exact h ▸ pb_range _ _
def S8.many (K : Nat → Int) (s : S8) (l : List Int) : Nat → S8
  | 0 => s
  | n + 1 => (s.many K l n).block K ((l.drop (64 * n)).take 64)
def S8.start : S8 := ⟨1779033703, 3144134277, 1013904242, 2773480762, 1359893119, 2600822924, 528734635, 1541459225⟩
def digV (s : S8) : Array Value := ((List.range 32).map fun i => Value.int .u8 (IntKind.u8.wrap (ishr .u32 (s.at (i / 4)) (24 - 8 * ((i % 4 : Nat) : Int))))).toArray
theorem digV_size (s : S8) : (digV s).size = 32 := by unfold digV; simp
theorem digV_at (s : S8) {i : Nat} (h : i < 32) : (digV s)[i]? = some (.int .u8 (IntKind.u8.wrap (ishr .u32 (s.at (i / 4)) (24 - 8 * ((i % 4 : Nat) : Int))))) := by
  unfold digV
  simp [h]
theorem digV_one (s : S8) : ∀ u ∈ (digV s).toList, u.oneCell' = true := by
  intro u hu
  unfold digV at hu
  simp at hu
  obtain ⟨j, _, rfl⟩ := hu
  rfl
/-- the digest -/
def ofS (K : Nat → Int) (bs : List Int) : S8 := S8.start.many K (padS bs) ((padS bs).length / 64)
section
variable {w : World} {b : Sl} {bs : List Int}
theorem push8 {w wq : World} {base : Nat} {out : Sl} {acc : List Int} {J : Sl → World → Prop} (hbase : base ≤ wq.heap.size) (hb : Below base w wq) (ho : Own B8 5 base wq out acc) (y : Int) (hl : acc.length ≤ 1000000000000)
    (hJ : ∀ out' wq', Own B8 5 base wq' out' (acc ++ [y]) → Below base w wq' → base ≤ wq'.heap.size → J out' wq') :
    ∀ (w_17 : World), w_17 = wq.alloc (.cells #[.int .u8 y] 5) → ∃ (t63_18 : Sl), ∃ (w_19 : World), (Builtin.append_ #[33, 33] 33 #[.slice out.a out.n out.c, .slice (some ⟨wq.heap.size, 0, none⟩) 1 1]).run Try.prog w_17 = .ok (.slice t63_18.a t63_18.n t63_18.c : Value) w_19 ∧ J t63_18 w_19 := by
  rintro _ rfl
  obtain ⟨s2, w2, h1, h2⟩ := ap_one (ty := 33) (w := wq) ty22 b8one ho y hbase (by omega)
  exact ⟨s2, w2, h1, hJ s2 w2 h2.own (h2.below ho hbase hb) (Nat.le_trans hbase h2.grown.size)⟩
theorem C76 (h : Rd B8 w b bs) (hl : bs.length ≤ 2000000) : Calls Try.prog 76 #[.slice b.a b.n b.c] w (fun e w1 => ∃ (r0 : Sl), e = .returned (.slice r0.a r0.n r0.c) ∧ (Own B8 5 w.heap.size w1 r0 (padS bs) ∧ Below w.heap.size w w1)) := by
  refine F76_sound b (fun r0 w1 => Own B8 5 w.heap.size w1 r0 (padS bs) ∧ Below w.heap.size w w1) w ?_
  unfold F76
  have hn := h.1
  obtain ⟨s2, w2, r2, o2, b2⟩ := ap_nil (ty := 33) ty22 b8one h (by omega)
  refine ⟨s2, w2, r2, push8 b2.size b2 o2 128 (by omega) (fun s3 w3 o3 b3 z3 => ?_)⟩
  refine ⟨fun st wq => ∃ acc, acc.length ≤ 2000100 ∧ zp acc.length + acc.length = zp (bs.length + 1) + (bs.length + 1) ∧ acc ++ List.replicate (zp acc.length) 0 = bs ++ [128] ++ List.replicate (zp (bs.length + 1)) 0 ∧ Own B8 5 w.heap.size wq st acc ∧ Below w.heap.size w wq, fun st _ => zp st.n, ⟨_, by simp; omega, by simp, by simp, o3, b3⟩, ?_⟩
  rintro out wq ⟨acc, hal, hzl, he, ho, hb⟩
  have hol := ho.len
  unfold F76_l1
  have htm : Int.tmod (out.n : Int) 64 = ((out.n % 64 : Nat) : Int) := by rw [tm (by omega)]; omega
  rw [htm]
  refine ⟨fun hne => ?_, fun heq => ?_⟩
  · refine push8 hb.size hb ho 0 (by omega) (fun s4 w4 o4 b4 z4 => ?_)
    have ho4 := o4.len
    have hla : (acc ++ [(0 : Int)]).length = acc.length + 1 := by simp
    rw [hla] at ho4
    have hz : zp acc.length = zp (acc.length + 1) + 1 := by unfold zp; omega
    have hzb : zp (bs.length + 1) < 64 := by unfold zp; omega
    refine ⟨⟨_, by rw [hla]; omega, by rw [hla]; omega, ?_, o4, b4⟩, ?_⟩
    · rw [hla, ← he, hz, List.replicate_succ, List.append_assoc]; rfl
    · show zp s4.n < zp out.n
      rw [← ho4, ← hol]; omega
  · have hz : zp acc.length = 0 := by unfold zp; omega
    rw [hz, List.replicate_zero, List.append_nil] at he
    refine ⟨fun st wq => ∃ j : Nat, st.2 = 7 - (j : Int) ∧ j ≤ 8 ∧ Own B8 5 w.heap.size wq st.1 (acc ++ (be8 (8 * (bs.length : Int))).take j) ∧ Below w.heap.size w wq, fun st _ => (st.2 + 1).toNat, ⟨0, rfl, by omega, by simpa using ho, hb⟩, ?_⟩
    rintro ⟨out, _⟩ wq ⟨j, rfl, hj, ho, hb⟩
    dsimp only at ho
    unfold F76_l2
    have hbl : (be8 (8 * (bs.length : Int))).length = 8 := rfl
    refine ⟨fun hge => ?_, fun hlt => ?_⟩
    · have hj8 : j < 8 := by omega
      rw [w_i64 (n := 8 * (7 - (j : Int))) (by omega) (by omega), w_u64 (n := (b.n : Int)) (by omega) (by omega), w_u64 (by omega) (by omega), w_i64 (n := 7 - (j : Int) - 1) (by omega) (by omega)]
      refine ⟨by omega, push8 hb.size hb ho _ (by rw [List.length_append, List.length_take]; omega) (fun s4 w4 o4 b4 z4 => ?_)⟩
      refine ⟨⟨j + 1, by (try dsimp only); omega, by omega, ?_, b4⟩, by (try dsimp only); omega⟩
      rw [← List.take_append_getElem (by omega : j < (be8 (8 * (bs.length : Int))).length), ← List.append_assoc]
      have hv : (be8 (8 * (bs.length : Int)))[j]'(by omega) = IntKind.u8.wrap (ishr .u64 ((b.n : Int) * 8) (8 * (7 - (j : Int)))) := by
        have e : (b.n : Int) * 8 = 8 * (bs.length : Int) := by omega
        rw [e]
        match j, hj8 with
        | 0, _ => rfl
        | 1, _ => rfl
        | 2, _ => rfl
        | 3, _ => rfl
        | 4, _ => rfl
        | 5, _ => rfl
        | 6, _ => rfl
        | 7, _ => rfl
      rw [hv]; exact o4
    · have hj8 : j = 8 := by omega
      subst hj8
      rw [List.take_of_length_le (by rw [hbl]; exact Nat.le_refl _), he] at ho
      exact ⟨ho, hb⟩
theorem C44 (h : Rd B8 w b bs) (hbb : bys bs) (hl : bs.length ≤ 2000000) : Calls Try.prog 44 #[.slice b.a b.n b.c] w (fun e w1 => ∃ (r0 : Value), e = .returned r0 ∧ (r0 = .agg (digV (ofS KR bs)) ∧ Below w.heap.size w w1)) := by
  refine F44_sound b (fun r0 w1 => r0 = .agg (digV (ofS KR bs)) ∧ Below w.heap.size w w1) w ?_
  unfold F44
  intro w2 e
  have b2 : Below w.heap.size w w2 := by rw [e]; exact below_row _ _
  obtain ⟨z, hz, hzs⟩ : ∃ z, w2.heap[w.heap.size]? = some (.cells z 50 (0, 0)) ∧ z.size = 32 := ⟨_, by rw [e]; exact heap_alloc_new w _, by kernel_rfl⟩
  clear e
  have d0 := row_lt hz
  intro w3 e
  have b3 : Below w2.heap.size w2 w3 := by rw [e]; exact below_row _ _
  obtain ⟨z8, hz8, hzs8⟩ : ∃ z, w3.heap[w2.heap.size]? = some (.cells z 94 (0, 0)) ∧ z.size = 8 := ⟨_, by rw [e]; exact heap_alloc_new w2 _, by kernel_rfl⟩
  clear e
  have d1 := row_lt hz8
  have hz := (Gr.below (S := fun _ => False) b3).blk hz (fun h => h)
  have B := b2.trans (b3.mono b2.size)
  refine ⟨row_hass hz8 8 0 (by omega), ?_⟩
  intro w4 e
  obtain ⟨h8, q⟩ := set8 hz8 hzs8 S8.start e
  have hz := q.blk hz (by (try dsimp only); omega)
  have B := B.trans (q.toBelow B.size (fun k hk => by (try dsimp only at hk); omega))
  have z4 := q.size
  refine (C76 (h.below B) hl).mono ?_
  rintro _ w6 ⟨sp, rfl, op, b6⟩
  have q6 := Gr.below (S := fun _ => False) b6
  have hz := q6.blk hz (fun h => h)
  have h8 := q6.blk h8 (fun h => h)
  have B := B.trans (b6.mono B.size)
  have hpl := op.len
  have hp64 := padN_64 bs (8 * (bs.length : Int))
  have hpb := padN_bys hbb (8 * (bs.length : Int))
  have hpn := padN_len bs (8 * (bs.length : Int))
  have hz64 : zp (bs.length + 1) < 64 := by unfold zp; omega
  refine ⟨_, rfl, ?_⟩
  refine ⟨fun st wq => ∃ i : Nat, st = ((64 * i : Nat) : Int) ∧ 64 * i ≤ (padS bs).length ∧ wq.heap[w2.heap.size]? = some (.cells (S8.start.many KR (padS bs) i).cells 94 (0, 0)) ∧ wq.heap[w.heap.size]? = some (.cells z 50 (0, 0)) ∧ Own B8 5 w4.heap.size wq sp (padS bs) ∧ Below w.heap.size w wq, fun st _ => ((padS bs).length - st).toNat, ⟨0, rfl, by omega, h8, hz, op, B⟩, ?_⟩
  rintro _ wq ⟨i, rfl, hi, h8, hz, op, hb⟩
  change (padS bs).length % 64 = 0 at hp64
  change (padS bs).length = _ at hpn
  unfold F44_l1
  refine ⟨fun hlt => ?_, fun hge => ?_⟩
  · rintro w9 hm
    have bq : Below wq.heap.size wq w9 := by rw [hm]; exact below_draw (Below.refl _ _) 1
    clear hm
    have q := Gr.below (S := fun _ => False) bq
    have h8 := q.blk h8 (fun h => h)
    have hz := q.blk hz (fun h => h)
    have op := op.below bq
    have hb := hb.trans (bq.mono hb.size)
    have hi1 : 64 * i + 64 ≤ (padS bs).length := by omega
    refine ⟨_, _, _, _, _, _, _, _, row_cellsAt h8, ?_⟩
    have hc := op.rd.2.1
    refine ⟨⟨_, _, _⟩, cut_run (w := w9) ty22 sp _ _ (64 * i) (64 * i + 64) rfl (by rw [w_i64 (by omega) (by omega)]; omega) (by omega) (by omega), ?_⟩
    have hrd := op.rd.mid (64 * i) (64 * i + 64) (by omega) hi1
    have hte : ((padS bs).take (64 * i + 64)).drop (64 * i) = ((padS bs).drop (64 * i)).take 64 := by rw [List.drop_take]; congr 1; omega
    rw [hte] at hrd
    refine (C77 (s := S8.start.many KR (padS bs) i) hrd (by rw [List.length_take, List.length_drop]; omega)).mono ?_
    rintro _ w27 ⟨rfl, b27⟩
    have q := Gr.below (S := fun _ => False) b27
    have h8 := q.blk h8 (fun h => h)
    have hz := q.blk hz (fun h => h)
    have op := op.below b27
    have hb := hb.trans (b27.mono hb.size)
    refine ⟨_, _, _, _, _, _, _, _, rfl, row_hass h8 8 0 (by show 8 ≤ 8; omega), ?_⟩
    intro w28 e
    obtain ⟨h8, q⟩ := set8 h8 rfl (S8.start.many KR (padS bs) (i + 1)) e
    rw [w_i64 (by omega) (by omega)]
    refine ⟨⟨i + 1, by omega, by omega, h8, q.blk hz (by (try dsimp only); omega), q.own op (fun k hk hk2 => by have := (op.blk_ge k hk).1; (try dsimp only at hk2); omega), hb.trans (q.toBelow hb.size (fun k hk => by (try dsimp only at hk); omega))⟩, by (try dsimp only); omega⟩
  · have hi1 : (padS bs).length / 64 = i := by omega
    have hof : ofS KR bs = S8.start.many KR (padS bs) i := by unfold ofS; rw [hi1]
    rw [hof]
    generalize S8.start.many KR (padS bs) i = s at h8
    have zq := hb.size
    have d2 := row_lt h8
    intro w29 e
    have bq : Below wq.heap.size wq w29 := by rw [e]; exact below_row _ _
    obtain ⟨y, hy, hys⟩ : ∃ z, w29.heap[wq.heap.size]? = some (.cells z 50 (0, 0)) ∧ z.size = 32 := ⟨_, by rw [e]; exact heap_alloc_new wq _, by kernel_rfl⟩
    clear e
    have q := Gr.below (S := fun _ => False) bq
    have h8 := q.blk h8 (fun h => h)
    have hz := q.blk hz (fun h => h)
    have hb := hb.trans (bq.mono hb.size)
    refine ⟨fun st wr => ∃ i : Nat, ∃ cs, st = (i : Int) ∧ i ≤ 32 ∧ wr.heap[wq.heap.size]? = some (.cells cs 50 (0, 0)) ∧ cs.size = 32 ∧ (∀ j, j < i → cs[j]? = (digV s)[j]?) ∧ wr.heap[w2.heap.size]? = some (.cells s.cells 94 (0, 0)) ∧ wr.heap[w.heap.size]? = some (.cells z 50 (0, 0)) ∧ Below w.heap.size w wr, fun st _ => (32 - st).toNat, ⟨0, y, rfl, by omega, hy, hys, fun j hj => by omega, h8, hz, hb⟩, ?_⟩
    rintro _ wr ⟨i, cs, rfl, hi, hc, hcs, hset, h8, hz, hb⟩
    unfold F44_l2
    refine ⟨fun hlt => ?_, fun hge => ?_⟩
    · have hi32 : i < 32 := by omega
      have e1 : IntKind.i64.wrap (Int.tdiv (i : Int) 4) = ((i / 4 : Nat) : Int) := by rw [td (by omega), w_i64 (by omega) (by omega)]; omega
      have e2 : IntKind.i64.wrap (24 - (IntKind.i64.wrap (8 * (Int.tmod (i : Int) 4)))) = 24 - 8 * ((i % 4 : Nat) : Int) := by rw [tm (by omega), w_i64 (n := 8 * ((i : Int) % 4)) (by omega) (by omega), w_i64 (by omega) (by omega)]; omega
      rw [e1, e2, Int.toNat_natCast, Int.toNat_natCast, add_lit, add_lit]
      refine ⟨by omega, by omega, _, by rw [row_get h8]; exact cells_at s (by omega), by omega, by omega, hlt, row_has hc (by omega), ?_⟩
      intro w33 e
      have q := gr_set wr ⟨wq.heap.size, i, none⟩ (.int .u8 (IntKind.u8.wrap (ishr .u32 (s.at (i / 4)) (24 - 8 * ((i % 4 : Nat) : Int)))))
      have hc' := row_set hc (j := i) (.int .u8 (IntKind.u8.wrap (ishr .u32 (s.at (i / 4)) (24 - 8 * ((i % 4 : Nat) : Int)))))
      rw [← e] at q hc'
      rw [w_i64 (by omega) (by omega)]
      refine ⟨⟨i + 1, _, by omega, by omega, hc', by simpa using hcs, fun j hj => ?_, q.blk h8 (by (try dsimp only); omega), q.blk hz (by (try dsimp only); omega), hb.trans (q.toBelow hb.size (fun k hk => by (try dsimp only at hk); omega))⟩, by (try dsimp only); omega⟩
      by_cases hji : j = i
      · subst hji
        rw [Array.getElem?_setIfInBounds_self_of_lt (by omega), digV_at s hi32]
      · rw [Array.getElem?_setIfInBounds_ne (by omega)]
        exact hset j (by omega)
    · have hi32 : i = 32 := by omega
      subst hi32
      have hcv : cs = digV s := by
        apply Array.ext_getElem?
        intro j
        by_cases hj : j < 32
        · exact hset j hj
        · rw [Array.getElem?_eq_none (by omega), Array.getElem?_eq_none (by rw [digV_size]; omega)]
      subst hcv
      have hT : aggT Try.prog 50 = true ∧ (Try.prog.info? 50).map (·.size) = some 32 := by constructor <;> kernel_rfl
      obtain ⟨w35, r35, h35, q35⟩ := store_all (P := Try.prog) (T := 50) (k := 32) (vs := digV s) hz hT.2 (digV_size s) hzs (digV_one s)
      exact ⟨_, load_row hc hT (digV_size s), w35, r35, _, load_row h35 hT (digV_size s), rfl, hb.trans (q35.toBelow hb.size (fun k hk => by (try dsimp only at hk); omega))⟩
end
end Go.Proofs.Ytjgijifankaglaa
