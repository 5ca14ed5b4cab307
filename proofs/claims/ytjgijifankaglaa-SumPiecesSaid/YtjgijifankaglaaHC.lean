/- Hex and Unhex of both. -/
import Derived.Test.YtjgijifankaglaaRS
import Derived.Test.YtjgijifankaglaaGSf
import Derived.Test.YtjgijifankaglaaTS
namespace Go.Proofs.Ytjgijifankaglaa
open Go Go.RowKit Go.Proofs.Ytjgijifankaglaa.SX
set_option linter.unusedVariables false

/-- a text's bytes -/
def sb (s : ByteArray) : List Int := s.data.toList.map fun b => ((b.toNat : Nat) : Int)
theorem sb_len (s : ByteArray) : (sb s).length = s.size := by unfold sb; rw [List.length_map, Array.length_toList]; rfl
theorem sb_bys (s : ByteArray) : bys (sb s) := by
  intro x hx
  unfold sb at hx
  obtain ⟨b, _, rfl⟩ := List.mem_map.1 hx
  have := UInt8.toNat_lt b
  omega
theorem sb_str {xs : List Int} (h : bys xs) : sb (strOfNums xs) = xs := by
  unfold sb
  rw [strOfNums_data, List.map_map]
  conv => rhs; rw [← List.map_id xs]
  refine List.map_congr_left fun x hx => ?_
  have := h x hx
  simp
  omega
theorem str_sb (s : ByteArray) : strOfNums (sb s) = s := by
  unfold sb strOfNums
  rw [List.map_map]
  have : s.data.toList.map ((fun n : Int => UInt8.ofNat n.toNat) ∘ fun b : UInt8 => ((b.toNat : Nat) : Int)) = s.data.toList := by
    conv => rhs; rw [← List.map_id s.data.toList]
    refine List.map_congr_left fun x _ => ?_
    simp
  rw [this]
theorem ix_s {s : ByteArray} {k : IntKind} {i : Int} {w : World} (n : Nat) (hi : i = n) (h : n < (sb s).length) : (Instr.index 9 (.string s) (.int k i)).run Try.prog w = .ok (.int .u8 ((sb s)[n]'h)) w := by
  have hs : n < s.size := by rw [sb_len] at h; exact h
  subst hi
  rw [run_index_string w 9 s k (n : Int) Try.underlying9, dif_pos ⟨by omega, by omega⟩]
  simp only [Int.toNat_natCast]
  have e : (sb s)[n]? = some (((s[n]'hs).toNat : Nat) : Int) := by
    show (List.map _ s.data.toList)[n]? = some (((s.data[n]'hs).toNat : Nat) : Int)
    rw [List.getElem?_map, Array.getElem?_toList, Array.getElem?_eq_getElem hs]; rfl
  rw [List.getElem?_eq_getElem h] at e
  rw [Option.some.inj e]
def dg (n : Nat) : Int := if n < 10 then 48 + (n : Int) else 87 + (n : Int)
def D16 : ByteArray := ByteArray.mk #[48, 49, 50, 51, 52, 53, 54, 55, 56, 57, 97, 98, 99, 100, 101, 102]
theorem sb_D : sb D16 = [48, 49, 50, 51, 52, 53, 54, 55, 56, 57, 97, 98, 99, 100, 101, 102] := by decide +kernel
theorem ix_D {k : IntKind} {i : Int} {w : World} (n : Nat) (hi : i = n) (h : n < 16) : (Instr.index 9 (.string D16) (.int k i)).run Try.prog w = .ok (.int .u8 (dg n)) w := by
  have hl : n < (sb D16).length := by rw [sb_D]; exact h
  rw [ix_s n hi hl]
  have : (sb D16)[n]'hl = dg n := by
    have hh : ∀ m : Fin 16, ([48, 49, 50, 51, 52, 53, 54, 55, 56, 57, 97, 98, 99, 100, 101, 102] : List Int)[m.val]? = some (dg m.val) := by decide +kernel
    have h2 := hh ⟨n, h⟩
    have h3 : (sb D16)[n]? = some (dg n) := by rw [sb_D]; exact h2
    rw [List.getElem?_eq_getElem hl] at h3
    exact Option.some.inj h3
  rw [this]
/-- two digits a byte -/
def hx (bs : List Int) : List Int := bs.flatMap fun b => [dg (b.toNat / 16), dg (b.toNat % 16)]
theorem hx_snoc (bs : List Int) (b : Int) : hx (bs ++ [b]) = hx bs ++ [dg (b.toNat / 16), dg (b.toNat % 16)] := by unfold hx; simp
theorem hx_len (bs : List Int) : (hx bs).length = 2 * bs.length := by
  induction bs with
  | nil => rfl
  | cons b l ih => unfold hx at ih ⊢; simp [ih]; omega
theorem dg_range {n : Nat} (h : n < 16) : 48 ≤ dg n ∧ dg n ≤ 102 := by unfold dg; split <;> omega
theorem hx_bys {bs : List Int} (h : bys bs) : bys (hx bs) := by
  intro x hx'
  unfold hx at hx'
  obtain ⟨b, hb, hm⟩ := List.mem_flatMap.1 hx'
  have := h b hb
  simp only [List.mem_cons, List.not_mem_nil, or_false] at hm
  rcases hm with rfl | rfl
  · have := dg_range (n := b.toNat / 16) (by omega); omega
  · have := dg_range (n := b.toNat % 16) (by omega); omega
/-- what a digit says -/
def dv (c : Int) : Option Int := if 48 ≤ c ∧ c ≤ 57 then some (c - 48) else if 97 ≤ c ∧ c ≤ 102 then some (c - 87) else none
theorem dv_range {c x : Int} (h : dv c = some x) : 0 ≤ x ∧ x ≤ 15 := by
  unfold dv at h
  split at h
  · cases h; omega
  · split at h
    · cases h; omega
    · cases h
theorem dv_dg {n : Nat} (h : n < 16) : dv (dg n) = some (n : Int) := by
  unfold dg dv
  split
  · rw [if_pos (by omega)]; congr 1; omega
  · rw [if_neg (by omega), if_pos (by omega)]; congr 1; omega
def uhx : List Int → Option (List Int)
  | [] => some []
  | [_] => none
  | a :: b :: l => match dv a, dv b, uhx l with
    | some x, some y, some r => some ((16 * x + y) :: r)
    | _, _, _ => none
theorem uhx_hx {bs : List Int} (h : bys bs) : uhx (hx bs) = some bs := by
  induction bs with
  | nil => rfl
  | cons b l ih =>
    have hb := h b (List.mem_cons_self ..)
    have e : hx (b :: l) = dg (b.toNat / 16) :: dg (b.toNat % 16) :: hx l := by unfold hx; simp
    rw [e, uhx, dv_dg (by omega), dv_dg (by omega), ih (fun x hx' => h x (List.mem_cons_of_mem _ hx'))]
    simp only [Option.some.injEq, List.cons.injEq, and_true]
    omega
theorem uhx_bys : ∀ {l r : List Int}, uhx l = some r → bys r
  | [], r, h => by cases h; exact fun x hx => nomatch hx
  | [_], r, h => nomatch h
  | a :: b :: l, r, h => by
    unfold uhx at h
    cases ha : dv a with
    | none => rw [ha] at h; cases h
    | some x =>
      cases hb : dv b with
      | none => rw [ha, hb] at h; cases h
      | some y =>
        cases hl : uhx l with
        | none => rw [ha, hb, hl] at h; cases h
        | some r' =>
          rw [ha, hb, hl] at h
          cases h
          have h1 := dv_range ha
          have h2 := dv_range hb
          intro z hz
          rcases List.mem_cons.1 hz with rfl | hz
          · omega
          · exact uhx_bys hl z hz
/-! the builder -/
def Bld (w : World) (b : Nat) (xs : List Int) : Prop := ∃ (p : Option Addr) (s : Sl), (p = none ∨ p = some ⟨b, 0, none⟩) ∧ w.heap[b]? = some (.cells #[.pointer p, .slice s.a s.n s.c] 105 (0, 0)) ∧ Own B8 5 (b + 1) w s xs
theorem ptr_same (a : Addr) (w : World) : (do eqGuard .neq 103 (Operand.tmp 17) (Operand.tmp 18) (.pointer (some a) : Value) (.pointer (some a) : Value); binOp .neq 103 (.pointer (some a) : Value) (.pointer (some a) : Value)).run Try.prog w = .ok (.bool false : Value) w := by
  have h : eqGuard .neq 103 (Operand.tmp 17) (Operand.tmp 18) (.pointer (some a) : Value) (.pointer (some a) : Value) = pure () := rfl
  have h2 : (Try.prog.info? 105).map (·.size) = some 2 := by kernel_rfl
  obtain ⟨i, hi, hs⟩ := Option.map_eq_some_iff.1 h2
  rw [h]
  simp [Lib.run_neq_ptr_same (P := Try.prog) w (tp := 103) (te := 105) a Try.underlying103 hi]
theorem ptr_out {w : World} {b : Nat} {cs : Array Value} (h : w.heap[b]? = some (.cells cs 105 (0, 0))) (hc : cs.size = 2) : (convert 103 162 (.pointer (some ⟨b, 0, none⟩) : Value)).run Try.prog w = .ok (.pointer (some ⟨b, 0, none⟩) : Value) w ∧ (convert 162 103 (.pointer (some ⟨b, 0, none⟩) : Value)).run Try.prog w = .ok (.pointer (some ⟨b, 0, none⟩) : Value) w := by
  have h2 : (Try.prog.info? 105).map (·.size) = some 2 := by kernel_rfl
  obtain ⟨i, hi, hs⟩ := Option.map_eq_some_iff.1 h2
  have hsh : w.shape? b = some (105, 2) := by simp [World.shape?, h, hc]
  exact ⟨Lib.run_to_unsafe (P := Try.prog) w (t := 105) ⟨b, 0, none⟩ Try.underlying103 Try.underlying162 hi (by rw [hs]; decide) hsh (Nat.zero_lt_succ 1), Lib.run_from_unsafe (P := Try.prog) w (u := 105) ⟨b, 0, none⟩ Try.underlying162 Try.underlying103 hi hsh (by kernel_rfl)⟩
theorem C100 {w : World} {b : Nat} {xs : List Int} (H : Bld w b xs) : Calls Try.prog 100 #[.pointer (some ⟨b, 0, none⟩)] w (fun e w1 => e = .returned (.tuple #[]) ∧ ((∃ s : Sl, w1.heap[b]? = some (.cells #[.pointer (some ⟨b, 0, none⟩), .slice s.a s.n s.c] 105 (0, 0)) ∧ Own B8 5 (b + 1) w1 s xs) ∧ Gr (fun k => k = b) w w1)) := by
  obtain ⟨p, s, hp, h1, ho⟩ := H
  refine F100_sound (some ⟨b, 0, none⟩) (fun w1 => (∃ s : Sl, w1.heap[b]? = some (.cells #[.pointer (some ⟨b, 0, none⟩), .slice s.a s.n s.c] 105 (0, 0)) ∧ Own B8 5 (b + 1) w1 s xs) ∧ Gr (fun k => k = b) w w1) w ?_
  unfold F100
  refine ⟨_, rfl, p, by rw [row_get h1]; rfl, fun hn => ?_, fun hn => ?_⟩
  · refine ⟨(ptr_out h1 rfl).1, (ptr_out h1 rfl).2, _, rfl, row_has h1 (by show 0 < 2; omega), ?_⟩
    intro w5 e
    have h2 := row_set h1 (j := 0) (.pointer (some ⟨b, 0, none⟩))
    have q := gr_set w ⟨b, 0, none⟩ (.pointer (some ⟨b, 0, none⟩))
    rw [← e] at h2 q
    exact ⟨⟨s, h2, q.own ho (fun k hk hk2 => by have := (ho.blk_ge k hk).1; (try dsimp only at hk2); omega)⟩, q⟩
  · rcases hp with rfl | rfl
    · cases hn
    · exact ⟨_, rfl, _, by rw [row_get h1]; rfl, false, ptr_same _ _, (fun h => nomatch h), fun _ => ⟨⟨s, h1, ho⟩, Gr.refl _ _⟩⟩
theorem C80 {w : World} {b : Nat} {xs : List Int} {c : Int} (H : Bld w b xs) (hl : xs.length ≤ 100000000000) : Calls Try.prog 80 #[.pointer (some ⟨b, 0, none⟩), .int .u8 c] w (fun e w1 => ∃ (r0 : Value), e = .returned r0 ∧ (Bld w1 b (xs ++ [c]) ∧ Below b w w1)) := by
  refine F80_sound (some ⟨b, 0, none⟩) c (fun r0 w1 => Bld w1 b (xs ++ [c]) ∧ Below b w w1) w ?_
  unfold F80
  have hb0 : b < w.heap.size := by obtain ⟨_, _, _, h1, _⟩ := H; exact row_lt h1
  refine (C100 H).mono ?_
  rintro _ w3 ⟨rfl, ⟨s, h1, ho⟩, q⟩
  have hbl := row_lt h1
  refine ⟨rfl, _, rfl, s, by rw [add_lit, row_get h1]; rfl, ?_⟩
  rintro _ rfl
  obtain ⟨s2, w2, r2, A⟩ := ap_one (ty := 33) (w := w3) ty22 b8one ho c hbl (by omega)
  have hnb : s.blk ≠ some b := fun h => by have := (ho.blk_ge b h).1; omega
  have h2 : w2.heap[b]? = some (.cells #[.pointer (some ⟨b, 0, none⟩), .slice s.a s.n s.c] 105 (0, 0)) := by rw [A.grown.block b hbl (fun e => hnb e.symm)]; exact h1
  refine ⟨s2, w2, r2, _, rfl, by rw [add_lit]; exact row_has h2 (by show 1 < 2; omega), ?_⟩
  rintro w10 e
  rw [add_lit] at e
  have h3 := row_set h2 (j := 1) (.slice s2.a s2.n s2.c)
  have q2 := gr_set w2 ⟨b, 1, none⟩ (.slice s2.a s2.n s2.c)
  rw [← e] at h3 q2
  have q1 : Gr (fun k => b ≤ k) w w3 := q.mono (fun k hk => by (try dsimp only at hk); omega)
  have qa : Gr (fun k => b ≤ k) w3 w2 := Gr.row A.grown (fun k hk => by have := (ho.blk_ge k hk).1; omega)
  have qb : Gr (fun k => b ≤ k) w2 w10 := q2.mono (fun k hk => by (try dsimp only at hk); omega)
  refine ⟨⟨some ⟨b, 0, none⟩, s2, .inr rfl, h3, q2.own A.own (fun k hk hk2 => by have := (A.own.blk_ge k hk).1; (try dsimp only at hk2); omega)⟩, ?_⟩
  have Q := (q1.trans qa (fun _ _ h => h)).trans qb (fun _ _ h => h)
  exact ⟨Q.os, Q.tape, Q.output, Q.size, fun k hk => Q.block k (by omega) (by omega)⟩
theorem bc_sb (s : ByteArray) : (sb s).map B8 = Lib.byteCells s.data.toList := by
  unfold sb Lib.byteCells
  rw [List.map_map]; rfl
theorem C81 {w : World} {b : Nat} {xs : List Int} (H : Bld w b xs) (hx : bys xs) : Calls Try.prog 81 #[.pointer (some ⟨b, 0, none⟩)] w (fun e w1 => e = .returned (.string (strOfNums xs)) ∧ Below b w w1) := by
  obtain ⟨p, s, hp, h1, ho⟩ := H
  have hbl := row_lt h1
  have hbc : xs.map B8 = Lib.byteCells (strOfNums xs).data.toList := by rw [← bc_sb, sb_str hx]
  have hn : (Lib.byteCells (strOfNums xs).data.toList).length = s.n := by rw [← hbc, List.length_map]; exact ho.len
  have hne : s.v.ownBlock ≠ some b := fun h => by have := (ho.blk_ge b h).1; omega
  have hown : w.ownsRow b 5 1 s.v (Lib.byteCells (strOfNums xs).data.toList).length (Lib.byteCells (strOfNums xs).data.toList) := by
    have := ho.lower (b := b) (by omega)
    unfold Own at this
    rw [hbc] at this
    rw [hn]; exact this
  have hb : Lib.IsBuilder 105 5 b b (Lib.byteCells (strOfNums xs).data.toList) w := by
    rcases hp with rfl | rfl
    · exact .inl ⟨Nat.le_refl _, s.v, h1, hown, hne⟩
    · exact .inr ⟨Nat.le_refl _, s.v, h1, hown, hne⟩
  refine (Try.Builder_String_any b b (strOfNums xs).data.toList w hb (Nat.le_of_lt hbl)).mono ?_
  rintro _ w1 ⟨rfl, hB⟩
  exact ⟨rfl, hB⟩
theorem and15 {n : Nat} (h : n < 256) : ibits .and .u8 (n : Int) 15 = ((n % 16 : Nat) : Int) := by
  have hh : ∀ m : Fin 256, ibits .and .u8 ((m.val : Nat) : Int) 15 = ((m.val % 16 : Nat) : Int) := by decide +kernel
  exact hh ⟨n, h⟩
theorem C51 {w : World} {b : Sl} {bs : List Int} (hr : Rd B8 w b bs) (hb : bys bs) (hl : bs.length ≤ 10000000000) : Calls Try.prog 51 #[.slice b.a b.n b.c] w (fun e w1 => ∃ (r0 : ByteArray), e = .returned (.string r0) ∧ (r0 = strOfNums (hx bs) ∧ Below w.heap.size w w1)) := by
  refine F51_sound b (fun r0 w1 => r0 = strOfNums (hx bs) ∧ Below w.heap.size w w1) w ?_
  unfold F51
  have hn := hr.1
  intro w2 e
  have b2 : Below w.heap.size w w2 := by rw [e]; exact below_row _ _
  have hB : Bld w2 w.heap.size [] := ⟨none, ⟨none, 0, 0⟩, .inl rfl, by rw [e]; exact heap_alloc_new w _, Own.nil⟩
  clear e
  refine ⟨fun st wr => ∃ i : Nat, st = (i : Int) ∧ i ≤ bs.length ∧ Bld wr w.heap.size (hx (bs.take i)) ∧ Below w.heap.size w wr, fun st _ => (bs.length - st).toNat, ⟨0, rfl, by omega, hB, b2⟩, ?_⟩
  rintro _ wr ⟨i, rfl, hi, hB, hw⟩
  unfold F51_l1
  refine ⟨fun hlt => ?_, fun hge => ?_⟩
  · have hib : i < bs.length := by omega
    obtain ⟨a, ha, hc⟩ := (hr.below hw).at i hib
    have hbi := hb _ (List.getElem_mem hib)
    obtain ⟨m, hm⟩ : ∃ m : Nat, bs[i] = (m : Int) := ⟨bs[i].toNat, by omega⟩
    rw [hm] at hc hbi
    refine ⟨by omega, hlt, a, ha, (m : Int), by rw [Int.toNat_natCast]; exact hc, _, ix_D (m / 16) (by show Int.fdiv (m : Int) 16 = _; rw [Int.fdiv_eq_ediv_of_nonneg _ (by omega)]; rfl) (by omega), ?_⟩
    have htl : (bs.take i).length = i := by rw [List.length_take]; omega
    refine (C80 hB (by rw [hx_len, htl]; omega)).mono ?_
    rintro _ w9 ⟨r, rfl, hB, bq⟩
    have hw := hw.trans bq
    refine ⟨r, rfl, _, ix_D (m % 16) (and15 (by omega)) (by omega), ?_⟩
    refine (C80 hB (by rw [List.length_append, hx_len, htl]; simp; omega)).mono ?_
    rintro _ w12 ⟨r, rfl, hB, bq⟩
    have hw := hw.trans bq
    refine ⟨r, rfl, ?_⟩
    rw [w_i64 (by omega) (by omega)]
    refine ⟨⟨i + 1, by omega, by omega, ?_, hw⟩, by (try dsimp only); omega⟩
    rw [← List.take_append_getElem hib, hx_snoc, hm, Int.toNat_natCast]
    simpa using hB
  · have hi2 : i = bs.length := by omega
    subst hi2
    rw [List.take_of_length_le (Nat.le_refl _)] at hB
    refine (C81 hB (hx_bys hb)).mono ?_
    rintro _ w14 ⟨rfl, bq⟩
    exact ⟨_, rfl, rfl, hw.trans bq⟩
theorem C54 {w : World} {b : Sl} {bs : List Int} (hr : Rd B8 w b bs) (hb : bys bs) (hl : bs.length ≤ 10000000000) : Calls Try.prog 54 #[.slice b.a b.n b.c] w (fun e w1 => ∃ (r0 : ByteArray), e = .returned (.string r0) ∧ (r0 = strOfNums (hx bs) ∧ Below w.heap.size w w1)) := by
  refine F54_sound b (fun r0 w1 => r0 = strOfNums (hx bs) ∧ Below w.heap.size w w1) w ?_
  unfold F54
  have hn := hr.1
  refine ⟨fun st wr => ∃ i : Nat, st.2 = (i : Int) ∧ i ≤ bs.length ∧ Own B8 5 w.heap.size wr st.1 (hx (bs.take i)) ∧ Below w.heap.size w wr, fun st _ => (bs.length - st.2).toNat, ⟨0, rfl, by omega, Own.nil, Below.refl _ _⟩, ?_⟩
  rintro ⟨out, _⟩ wr ⟨i, rfl, hi, ho, hw⟩
  dsimp only at ho
  unfold F54_l1
  refine ⟨fun hlt => ?_, fun hge => ?_⟩
  · have hib : i < bs.length := by omega
    intro w5 hd
    have bd : Below wr.heap.size wr w5 := by rw [hd]; exact below_draw (Below.refl _ _) 1
    clear hd
    have ho := ho.below bd
    have hw := hw.trans (bd.mono hw.size)
    obtain ⟨a, ha, hc⟩ := (hr.below hw).at i hib
    have hbi := hb _ (List.getElem_mem hib)
    obtain ⟨m, hm⟩ : ∃ m : Nat, bs[i] = (m : Int) := ⟨bs[i].toNat, by omega⟩
    rw [hm] at hc hbi
    have htl : (bs.take i).length = i := by rw [List.length_take]; omega
    refine ⟨by omega, hlt, a, ha, (m : Int), by rw [Int.toNat_natCast]; exact hc, _, ix_D (m / 16) (by rw [td (by omega), w_u8 (by omega) (by omega)]; omega) (by omega), by omega, hlt, a, ha, (m : Int), by rw [Int.toNat_natCast]; exact hc, _, ix_D (m % 16) (by rw [tm (by omega)]; omega) (by omega), ?_⟩
    intro w12 e
    have b12 : Below w5.heap.size w5 w12 := by rw [e]; exact below_row _ _
    have hrow : w12.heap[w5.heap.size]? = some (.cells #[.int .u8 (dg (m / 16)), .int .u8 (dg (m % 16))] 5 (0, 0)) := by rw [e]; exact heap_alloc_new w5 _
    clear e
    have hrd : Rd B8 w12 ⟨some ⟨w5.heap.size, 0, none⟩, 2, 2⟩ [dg (m / 16), dg (m % 16)] := by
      refine ⟨rfl, Nat.le_refl _, by simp [maxLen], fun _ => ⟨_, rfl, fun j hj => ?_⟩⟩
      rw [add_lit, row_get hrow]
      have hj2 : j < 2 := hj
      have : j = 0 ∨ j = 1 := by omega
      rcases this with rfl | rfl <;> rfl
    have ho := ho.below b12
    obtain ⟨s2, w2, r2, A⟩ := ap_many (P := Try.prog) (ty := 33) ty22 b8one ho hrd (Nat.le_trans hw.size b12.size) (by rw [hx_len, htl]; simp; omega)
    have hw := hw.trans (b12.mono hw.size)
    refine ⟨s2, w2, r2, ?_⟩
    rw [w_i64 (by omega) (by omega)]
    refine ⟨⟨i + 1, by (try dsimp only); omega, by omega, ?_, A.below ho hw.size hw⟩, by (try dsimp only); omega⟩
    rw [← List.take_append_getElem hib, hx_snoc, hm, Int.toNat_natCast]
    exact A.own
  · have hi2 : i = bs.length := by omega
    subst hi2
    rw [List.take_of_length_le (Nat.le_refl _)] at ho
    exact ⟨_, rd_str ho.rd, rfl, hw⟩
end Go.Proofs.Ytjgijifankaglaa
