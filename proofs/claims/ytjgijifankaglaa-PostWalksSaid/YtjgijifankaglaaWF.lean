/- PostWalks: the walk. -/
import Derived.Test.YtjgijifankaglaaWT
namespace Go.Proofs.Ytjgijifankaglaa
open Go Go.RowKit Go.Proofs.Ytjgijifankaglaa.SX
set_option linter.unusedVariables false

theorem C14' {s : Sl} {xs : List Int} {w : World} (h : Rd E4 w s xs) : Calls Try.prog 14 #[.slice s.a s.n s.c] w (fun e w1 => ∃ (r0 : Sl), e = .returned (.slice r0.a r0.n r0.c : Value) ∧ ((∀ W, Rd E4 W s xs → Rd E4 W r0 (xs.take 400)) ∧ w1 = w)) := by
  refine F14_sound s (fun r0 w1 => (∀ W, Rd E4 W s xs → Rd E4 W r0 (xs.take 400)) ∧ w1 = w) w ?_
  unfold F14
  have hn := h.1
  refine ⟨fun h0 => ?_, fun h0 => ⟨?_, rfl⟩⟩
  · exact ⟨⟨_, _, _⟩, cut_hi (w := w) tyU s _ 400 rfl (by have := h.2.1; omega), fun W hW => hW.take 400 (by omega), rfl⟩
  · intro W hW; rw [List.take_of_length_le (by omega)]; exact hW
abbrev ext3 (s : Sl) : Sl := ⟨s.a, s.n + 3, s.c⟩
def LentO (B : Nat) (w : World) (s : Sl) (xs : List Int) : Prop := xs.length = s.n ∧ SX.Own E4 23 B w (ext3 s) (xs ++ far)
theorem LentO.lent {B : Nat} {w : World} {s : Sl} {xs : List Int} (h : LentO B w s xs) : Lent w s xs := ⟨h.1, h.2.rd⟩
theorem C15o {w : World} {s : Sl} {xs : List Int} (h : Rd E4 w s xs) (hl : xs.length ≤ 1000000) : Calls Try.prog 15 #[.slice s.a s.n s.c] w (fun e w1 => ∃ (r0 : Sl), e = .returned (.slice r0.a r0.n r0.c : Value) ∧ (LentO w.heap.size w1 r0 xs ∧ Below w.heap.size w w1)) := by
  refine F15_sound s (fun r0 w1 => LentO w.heap.size w1 r0 xs ∧ Below w.heap.size w w1) w ?_
  unfold F15
  have hn := h.1
  obtain ⟨s2, w2, r2, o2, b2⟩ := ap_nil (ty := 22) tyU e4one h (by omega)
  refine ⟨s2, w2, r2, ?_⟩
  rintro _ rfl
  have hrow := row_u32 w2 far (by decide)
  have B3 : Below w2.heap.size w2 (w2.alloc (.cells #[.int .u32 4294967295, .int .u32 4294967295, .int .u32 4294967295] 23)) := (Below.refl _ _).alloc (Nat.le_refl _) _
  obtain ⟨s3, w3, r3, a3⟩ := ap_many (ty := 22) (w := w2.alloc (.cells #[.int .u32 4294967295, .int .u32 4294967295, .int .u32 4294967295] 23)) tyU e4one (o2.below B3) hrow (Nat.le_trans b2.size B3.size) (by simp; omega)
  have b3 := a3.below (o2.below B3) (Nat.le_trans b2.size B3.size) (b2.trans (B3.mono b2.size))
  have hl3 := a3.own.len
  rw [List.length_append] at hl3
  have hc3 := a3.own.rd.2.1
  simp only [List.length_cons, List.length_nil] at hl3
  refine ⟨s3, w3, r3, ⟨s3.a, s.n, s3.c⟩, cut_hi (w := w3) tyU s3 _ s.n rfl (by omega), ⟨hn, ?_⟩, b3⟩
  have h4 := a3.own
  have e : (⟨s3.a, s.n + 3, s3.c⟩ : Sl) = s3 := by cases s3; simp_all
  show SX.Own E4 23 w.heap.size w3 ⟨s3.a, s.n + 3, s3.c⟩ (xs ++ far)
  rw [e]; exact h4
theorem LentO.below {B : Nat} {w w' : World} {s : Sl} {xs : List Int} (h : LentO B w s xs) (b : Below w.heap.size w w') : LentO B w' s xs := ⟨h.1, h.2.below b⟩
theorem LentO.kept {B : Nat} {w w' : World} {s : Sl} {xs : List Int} {row : Option Nat} (h : LentO B w s xs) (g : w.grownBy w' row) (hne : ∀ k, (ext3 s).blk = some k → some k ≠ row) : LentO B w' s xs :=
  ⟨h.1, h.2.kept g (by
    cases hb : (ext3 s).blk with
    | none => exact .inl rfl
    | some k => exact .inr (hne k hb))⟩
theorem own_keptne {α : Type} {enc : α → Value} {e base : Nat} {w w' : World} {s : Sl} {xs : List α} {row : Option Nat} (h : SX.Own enc e base w s xs) (g : w.grownBy w' row) (hne : ∀ k, s.blk = some k → some k ≠ row) : SX.Own enc e base w' s xs :=
  h.kept g (by
    cases hb : s.blk with
    | none => exact .inl rfl
    | some k => exact .inr (hne k hb))
/-- what was collected -/
structure Col (B : Nat) (w w' : World) (lists copies : Sl) (ls cs : List (Sl × List Int)) : Prop where
  lo : SX.Own RV 22 B w' lists ls
  co : SX.Own RV 22 B w' copies cs
  ne : ∀ k, lists.blk = some k → copies.blk ≠ some k
  lent : ∀ r ∈ ls, LentO B w' r.1 r.2
  pw : ls.Pairwise (fun r r' => ∀ k k', (ext3 r.1).blk = some k → (ext3 r'.1).blk = some k' → k < k')
  cr : ∀ r ∈ cs, ∀ W, Below w.heap.size w W → Rd E4 W r.1 r.2
  eq : cs.map (·.2) = ls.map (·.2)
  len : ls.length ≤ 9
  l4 : ∀ r ∈ ls, r.2.length ≤ 400
def Rest6 (K : Bool → World → Prop) (w w_3 : World) (t19_5 : Bool) (lists6_7 copies7_8 : Sl) (w_10 : World) : Prop :=
  Calls Try.prog 36 #[.slice copies7_8.a copies7_8.n copies7_8.c] w_10 fun e w_25 => ∃ (t46_23 : Sl), ∃ (t46_24 : Sl), e = .returned (.tuple #[.slice t46_23.a t46_23.n t46_23.c, .slice t46_24.a t46_24.n t46_24.c] : Value) ∧
  ∀ (w_26 : World), w_26 = w_25.alloc (.cells #[.slice none 0 0] 22) →
  ∀ (w_27 : World), w_27 = w_26.alloc (.cells #[.slice none 0 0] 41) →
  HasCell w_27 (⟨w_25.heap.size, 0, none⟩ : Addr) ∧ ∀ (w_28 : World), w_28 = w_27.setCell (⟨w_25.heap.size, 0, none⟩ : Addr) (.slice t46_23.a t46_23.n t46_23.c : Value) →
  HasCell w_28 (⟨w_26.heap.size, 0, none⟩ : Addr) ∧ ∀ (w_29 : World), w_29 = w_28.setCell (⟨w_26.heap.size, 0, none⟩ : Addr) (.slice t46_24.a t46_24.n t46_24.c : Value) →
  Calls Try.prog 37 #[.slice lists6_7.a lists6_7.n lists6_7.c] w_29 fun e w_31 => ∃ (t50_30 : Value), e = .returned t50_30 ∧
  ∃ (t52_32 : Bool), (do eqGuard .eql 45 (Operand.tmp 51) (Operand.const Value.nilFunc) t50_30 (Value.nilFunc); binOp .eql 45 t50_30 (Value.nilFunc)).run Try.prog w_31 = .ok (.bool t52_32 : Value) w_31 ∧
  ((t52_32 = true →
  HasCell w_31 (⟨w_3.heap.size, 0, none⟩ : Addr) ∧ ∀ (w_33 : World), w_33 = w_31.setCell (⟨w_3.heap.size, 0, none⟩ : Addr) (.bool false : Value) →
  ∃ (r0_34 : Bool), w_33.cell? (⟨w_3.heap.size, 0, none⟩ : Addr) = some (.bool r0_34) ∧
  K r0_34 w_33) ∧
  (t52_32 = false →
  kLoop (F6_l2 K w w_3 t19_5 lists6_7 copies7_8 w_25 w_26 t50_30) (0) w_31))

theorem rd_ints {w : World} {s : Sl} {ns : List Nat} (h : Rd I8 w s ns) : Rd (fun n : Int => (.int .i64 n : Value)) w s (ns.map fun n : Nat => (n : Int)) := by
  refine ⟨by rw [List.length_map]; exact h.1, h.2.1, h.2.2.1, fun h0 => ?_⟩
  obtain ⟨a, ha, hc⟩ := h.2.2.2 h0
  refine ⟨a, ha, fun j hj => ?_⟩
  rw [List.length_map] at hj
  rw [hc j hj, List.getElem_map]
theorem nil_no (v : Value) (x y : Operand) (W : World) (h : (∃ c, v = .func (.func 74) #[] #[.pointer (some ⟨c, 0, none⟩)]) ∨ v = .func (.func 73) #[] #[]) : (do eqGuard .eql 45 x y v (Value.nilFunc); binOp .eql 45 v (Value.nilFunc) : Sem Value).run Try.prog W = .ok (.bool false : Value) W := by
  rcases h with ⟨c, rfl⟩ | rfl <;> kernel_rfl
theorem loop6 {K : Bool → World → Prop} {w w3 w25 w26 w31 : World} {v : Value} {B N : Nat} {lists copies : Sl} {ls cs : List (Sl × List Int)} (C : Col B w w31 lists copies ls cs) (hB : w.heap.size ≤ B) (hw : Below w.heap.size w w31) (hB31 : B ≤ w31.heap.size) (hlb : ∀ k, lists.blk = some k → k < N) (hrb : ∀ r ∈ ls, ∀ k, (ext3 r.1).blk = some k → k < N)
    (hend : ∀ w36, Gr (fun k => B ≤ k ∧ k < N) w31 w36 → ∀ w56, w56 = w36.alloc (.cells #[.int .i64 0] 3) → HasCell w56 (⟨w36.heap.size, 0, none⟩ : Addr) ∧ ∀ w57, w57 = w56.setCell (⟨w36.heap.size, 0, none⟩ : Addr) (.int .i64 0 : Value) → F6_cut K w w3 true w25 w26 v w36 w57) :
    kLoop (F6_l2 K w w3 true lists copies w25 w26 v) 0 w31 := by
  have hcl : cs.length = ls.length := by have := congrArg List.length C.eq; simpa using this
  have h9 := C.len
  refine ⟨fun st wr => ∃ (i : Nat) (ls2 : List (Sl × List Int)), st = (i : Int) ∧ i ≤ ls.length ∧ SX.Own RV 22 B wr lists ls2 ∧ ls2.length = ls.length ∧ (∀ j, i ≤ j → ls2[j]? = ls[j]?) ∧ (∀ j (h : j < ls.length), i ≤ j → LentO B wr ls[j].1 ls[j].2) ∧ SX.Own RV 22 B wr copies cs ∧ Gr (fun k => B ≤ k ∧ k < N) w31 wr, fun st _ => (ls.length - st).toNat, ⟨0, ls, rfl, Nat.zero_le _, C.lo, rfl, fun _ _ => rfl, fun j h _ => C.lent _ (List.getElem_mem h), C.co, Gr.refl _ _⟩, ?_⟩
  rintro _ wr ⟨i, ls2, rfl, hi, ho, hll, hsame, hle, hco, q⟩
  unfold F6_l2
  have hon := ho.len
  have hcn := hco.len
  have toB : ∀ {x y : World}, Gr (fun k => B ≤ k ∧ k < N) x y → Below w.heap.size w x → Below w.heap.size w y := fun g h => h.trans (g.toBelow h.size (fun k hk => by omega))
  refine ⟨fun hlt => ?_, fun hge => hend wr q⟩
  have hin : i < ls.length := by omega
  intro w37 hd
  have bd : Below wr.heap.size wr w37 := by rw [hd]; exact (Below.refl _ _).drew
  clear hd
  have ho := ho.below bd
  have hco := hco.below bd
  have q := q.trans (Gr.below (S := fun k => B ≤ k ∧ k < N) bd) (fun _ _ h => h)
  have hle : ∀ j (h : j < ls.length), i ≤ j → LentO B w37 ls[j].1 ls[j].2 := fun j h hij => (hle j h hij).below bd
  have e2 : ls2[i]'(by omega) = ls[i] := by
    have := hsame i (Nat.le_refl _)
    rw [List.getElem?_eq_getElem (by omega), List.getElem?_eq_getElem hin] at this
    exact Option.some.inj this
  have ec : (cs[i]'(by omega)).2 = ls[i].2 := by
    have h1 : (cs.map (·.2))[i]? = (ls.map (·.2))[i]? := by rw [C.eq]
    rw [List.getElem?_map, List.getElem?_map, List.getElem?_eq_getElem (by omega), List.getElem?_eq_getElem hin] at h1
    exact Option.some.inj h1
  obtain ⟨a, ha, hc⟩ := ho.rd.at i (by omega)
  rw [e2] at hc
  obtain ⟨b, hb, hbc⟩ := hco.rd.at i (by omega)
  have hm : ls[i] ∈ ls := List.getElem_mem hin
  refine ⟨by omega, by omega, a, ha, ls[i].1, by rw [Int.toNat_natCast]; exact hc, by omega, by omega, b, hb, (cs[i]'(by omega)).1, by rw [Int.toNat_natCast]; exact hbc, ?_⟩
  have hcr := C.cr _ (List.getElem_mem (by omega : i < cs.length)) w37 (toB q hw)
  rw [ec] at hcr
  refine (C30 (hle i hin (Nat.le_refl _)).lent hcr (by have := C.l4 _ hm; omega)).mono ?_
  rintro _ w43 ⟨_, rfl, rfl, bd⟩
  have ho := ho.below bd
  have hco := hco.below bd
  have q := q.trans (Gr.below (S := fun k => B ≤ k ∧ k < N) bd) (fun _ _ h => h)
  have hle : ∀ j (h : j < ls.length), i ≤ j → LentO B w43 ls[j].1 ls[j].2 := fun j h hij => (hle j h hij).below bd
  have hli := hle i hin (Nat.le_refl _)
  have hln := hli.1
  have hl4 := C.l4 _ hm
  refine ⟨_, rfl, (fun h => nomatch h), fun _ => ?_⟩
  refine ⟨fun st wq => ∃ (k : Nat) (xs : List Int), st = (k : Int) ∧ k ≤ ls[i].1.n ∧ xs.length = ls[i].1.n + 3 ∧ SX.Own E4 23 B wq (ext3 ls[i].1) xs ∧ SX.Own RV 22 B wq lists ls2 ∧ (∀ j (h : j < ls.length), i < j → LentO B wq ls[j].1 ls[j].2) ∧ SX.Own RV 22 B wq copies cs ∧ Gr (fun k => B ≤ k ∧ k < N) w31 wq, fun st _ => (ls[i].1.n - st).toNat, ⟨0, _, rfl, Nat.zero_le _, by rw [List.length_append, hln]; rfl, hli.2, ho, fun j h hij => hle j h (by omega), hco, q⟩, ?_⟩
  clear hli hle hco ho q hbc hc hcr
  rintro _ wq ⟨k, xs, rfl, hk, hxl, hx, ho, hle, hco, q⟩
  unfold F6_l3
  obtain ⟨a, ha, hc⟩ := ho.rd.at i (by omega)
  rw [e2] at hc
  refine ⟨by omega, by omega, a, ha, ls[i].1, by rw [Int.toNat_natCast]; exact hc, fun hlt2 => ?_, fun hge2 => ?_⟩
  · obtain ⟨a2, ha2, hblk, hcell, o2, g2⟩ := hx.set k (by omega) 9
    refine ⟨by omega, by omega, a, ha, ls[i].1, by rw [Int.toNat_natCast]; exact hc, by omega, by omega, a2, ha2, by rw [Int.toNat_natCast]; exact hcell, ?_⟩
    rw [Int.toNat_natCast]
    rintro _ rfl
    rw [w_i64 (by omega) (by omega)]
    refine ⟨⟨k + 1, _, by omega, by omega, by rw [List.length_set]; exact hxl, o2, own_keptne ho g2 (fun p hp e => own_ne ho hx (by decide) hp e.symm), fun j h hij => (hle j h hij).kept g2 (fun p hp e => ?_), own_keptne hco g2 (fun p hp e => own_ne hco hx (by decide) hp e.symm), q.trans (Gr.row g2 (fun p hp => hp)) (fun p _ hp => ⟨(hx.blk_ge p hp).1, hrb _ hm p hp⟩)⟩, by (try dsimp only); omega⟩
    have := List.pairwise_iff_getElem.1 C.pw i j hin h hij p p e.symm hp
    omega
  · obtain ⟨a2, ha2, hblk, hcell, o2, g2⟩ := ho.set i (by omega) ((⟨none, 0, 0⟩ : Sl), ([] : List Int))
    refine ⟨by omega, by omega, a2, ha2, by rw [Int.toNat_natCast]; exact hcell, ?_⟩
    rw [Int.toNat_natCast]
    rintro _ rfl
    rw [w_i64 (by omega) (by omega)]
    refine ⟨⟨i + 1, _, by omega, by omega, o2, by rw [List.length_set]; exact hll, fun j hij => ?_, fun j h hij => (hle j h (by omega)).kept g2 (fun p hp e => own_ne (hle j h (by omega)).2 ho (by decide) hp e.symm), own_keptne hco g2 (fun p hp e => C.ne p e.symm hp), q.trans (Gr.row g2 (fun p hp => hp)) (fun p _ hp => ⟨(ho.blk_ge p hp).1, hlb p hp⟩)⟩, by (try dsimp only); omega⟩
    rw [List.getElem?_set_ne (by omega)]
    exact hsame j (by omega)
end Go.Proofs.Ytjgijifankaglaa
