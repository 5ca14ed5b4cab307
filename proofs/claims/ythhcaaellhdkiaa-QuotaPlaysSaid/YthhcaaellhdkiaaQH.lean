/- The document's own book: what each call does. -/
import Derived.Test.YthhcaaellhdkiaaKR
import Derived.Test.YthhcaaellhdkiaaQG
import Derived.Test.YthhcaaellhdkiaaGQb
namespace Go.Proofs.Ythhcaaellhdkiaa
open Go Go.RowKit Go.Proofs.Ythhcaaellhdkiaa.SX
set_option linter.unusedVariables false

@[reducible] def enc6 (x : ByteArray × Acc) : List Value := [.string x.1, .int .i64 x.2.ms, .int .i64 x.2.mp, .int .i64 x.2.sr, .int .i64 x.2.wr, .int .i64 x.2.wi]
theorem enc6_len (x : ByteArray × Acc) : (enc6 x).length = 6 := rfl
theorem enc6_one (x : ByteArray × Acc) : ∀ u ∈ enc6 x, u.oneCell' = true := by
  intro u hu
  simp [enc6] at hu
  rcases hu with rfl | rfl | rfl | rfl | rfl | rfl <;> rfl
theorem ty119 : TyK Try.prog 119 127 6 (.agg #[.string ByteArray.empty, .int .i64 0, .int .i64 0, .int .i64 0, .int .i64 0, .int .i64 0]) 56 := ⟨Try.underlying119, by kernel_rfl, rfl, by decide, by decide⟩

/-- the document's book: its list is m; fp holds its blocks -/
structure Rf (w : World) (q : Nat) (s : Sl) (m : Accs) (fp : Nat → Prop) : Prop where
  cell : w.heap[q]? = some (.cells #[s.v] 121 (0, 0))
  own : OwnK enc6 6 127 0 w s m
  bl : ∀ b, s.blk = some b → fp b ∧ b ≠ q
  fq : fp q
  lt : ∀ k, fp k → k < w.heap.size
section
variable {w w' w1 : World} {q : Nat} {s : Sl} {m : Accs} {fp S : Nat → Prop} {t : ByteArray} {a : Acc}
theorem Rf.keep (h : Rf w q s m fp) (hg : Gr S w w') (hn : ∀ k, fp k → ¬ S k) : Rf w' q s m fp :=
  ⟨hg.blk h.cell (hn q h.fq), h.own.gr hg (fun b hb => hn b (h.bl b hb).1), h.bl, h.fq, fun k hk => Nat.lt_of_lt_of_le (h.lt k hk) hg.size⟩
theorem Rf.below (h : Rf w q s m fp) (hb : Below w.heap.size w w') : Rf w' q s m fp := h.keep (S := fun _ => False) (Gr.below hb) (fun _ _ h => h)
theorem Rf.drawn (h : Rf w q s m fp) (k : Nat) : Rf (w.drewN k) q s m fp := h.keep (S := fun _ => False) (gr_drew w k) (fun _ _ h => h)
theorem Rf.c (h : Rf w q s m fp) : w.cell? ⟨q, 0, none⟩ = some s.v := by rw [row_get h.cell]; rfl
theorem Rf.rd (h : Rf w q s m fp) : RdC enc6 6 w s m := h.own.rd enc6_len (by omega)
theorem Rf.len (h : Rf w q s m fp) : m.length = s.n := h.own.len enc6_len (by omega)
/-- the row is another slice now -/
theorem Rf.slice (h : Rf w q s m fp) {w2 : World} {s2 : Sl} {m' : Accs} (hg : Gr fp w w2) (hq : w2.heap[q]? = some (.cells #[s.v] 121 (0, 0))) (ho : OwnK enc6 6 127 0 w2 s2 m') (hb : s2.blk = none ∨ s2.blk = s.blk ∨ ∃ b, s2.blk = some b ∧ w.heap.size ≤ b) :
    HasCell w2 ⟨q, 0, none⟩ ∧ Rf (w2.setCell ⟨q, 0, none⟩ s2.v) q s2 m' (fun k => fp k ∨ (w.heap.size ≤ k ∧ k < w2.heap.size)) ∧ Gr fp w (w2.setCell ⟨q, 0, none⟩ s2.v) := by
  have hgs := gr_setl w2 q 0 s2.v
  have hqs := h.lt q h.fq
  have hs2 : ∀ b, s2.blk = some b → (fp b ∨ (w.heap.size ≤ b ∧ b < w2.heap.size)) ∧ b ≠ q := by
    intro b hb2
    have hlt := (ho.blk_ge b hb2).2
    rcases hb with h1 | h1 | ⟨b', h1, h2⟩
    · rw [h1] at hb2; cases hb2
    · rw [h1] at hb2; exact ⟨.inl (h.bl b hb2).1, (h.bl b hb2).2⟩
    · rw [h1] at hb2; cases hb2; exact ⟨.inr ⟨h2, hlt⟩, by omega⟩
  refine ⟨row_has hq (by simp), ⟨row_set hq _, ho.gr hgs (fun b hb e => (hs2 b hb).2 e), hs2, .inl h.fq, ?_⟩, hg.trans hgs (fun i _ hi => by rw [show i = q from hi]; exact h.fq)⟩
  intro k hk
  have h1 := hg.size
  have h2 := hgs.size
  rcases hk with hk | hk
  · have := h.lt k hk; omega
  · omega

theorem C50 (w : World) : Calls Try.prog 50 #[] w (fun e w1 => ∃ (r : Option Addr), e = .returned (.pointer r : Value) ∧ (r = some ⟨w.heap.size, 0, none⟩ ∧ Rf w1 w.heap.size ⟨none, 0, 0⟩ [] (fun k => k = w.heap.size) ∧ Below w.heap.size w w1)) := by
  refine F50_sound (fun r w1 => r = some ⟨w.heap.size, 0, none⟩ ∧ Rf w1 w.heap.size ⟨none, 0, 0⟩ [] (fun k => k = w.heap.size) ∧ Below w.heap.size w w1) w ?_
  unfold F50
  rintro _ rfl
  exact ⟨rfl, ⟨heap_alloc_new w _, OwnK.nil, fun b hb => (nomatch hb), rfl, fun k hk => by subst hk; simp⟩, (Below.refl _ _).alloc (Nat.le_refl _) _⟩

def idx (m : Accs) (t : ByteArray) : Int := match look m t with
  | some (i, _) => i
  | none => -1
theorem idx_neg {m : Accs} {t : ByteArray} : idx m t < 0 ↔ (look m t).isSome = false := by
  unfold idx
  cases look m t with
  | none => simp
  | some x => simp
theorem look_drop {m : Accs} {t : ByteArray} {i : Nat} (hi : i < m.length) : look (m.drop i) t = if t = (m[i]).1 then some (0, (m[i]).2) else (look (m.drop (i + 1)) t).map fun x => (x.1 + 1, x.2) := by
  rw [List.drop_eq_getElem_cons hi]
  rfl
theorem C73 (h : Rf w q s m fp) (t : ByteArray) (hl : m.length ≤ 1000000) : Calls Try.prog 73 #[.pointer (some ⟨q, 0, none⟩), .string t] w (fun e w1 => ∃ (r : Int), e = .returned (.int .i64 r : Value) ∧ (r = idx m t ∧ w1 = w)) := by
  refine F73_sound _ t (fun r w1 => r = idx m t ∧ w1 = w) w ?_
  unfold F73
  have hn := h.len
  refine ⟨fun i wr => wr = w ∧ ∃ j : Nat, i = (j : Int) ∧ j ≤ m.length ∧ look m t = (look (m.drop j) t).map fun x => (x.1 + j, x.2), fun i _ => ((m.length : Int) - i).toNat, ⟨rfl, 0, rfl, by omega, by simp⟩, ?_⟩
  rintro _ wr ⟨rfl, j, rfl, hj, hlk⟩
  unfold F73_l1
  refine ⟨_, rfl, s, h.c, fun hlt => ?_, fun hge => ⟨?_, rfl⟩⟩
  · have hjm : j < m.length := by omega
    obtain ⟨a, ha, hc⟩ := h.rd.at j hjm
    have h0 := hc.get 0 (.string m[j].1) rfl
    rw [Nat.zero_add, show ((a.add (j * 6)).add 0) = a.add (j * 6) from by simp [Addr.add]] at h0
    rw [look_drop hjm] at hlk
    refine ⟨_, rfl, s, h.c, by omega, by omega, a, ha, _, h0, fun heq => ⟨?_, rfl⟩, fun hne => ?_⟩
    · rw [if_pos (toList_iff.1 heq).symm] at hlk
      unfold idx; rw [hlk]; simp
    · rw [if_neg (fun e => hne (toList_iff.2 e.symm))] at hlk
      rw [w_i64 (by omega) (by omega)]
      refine ⟨⟨rfl, j + 1, by omega, by omega, ?_⟩, by (try dsimp only); omega⟩
      rw [hlk, Option.map_map]
      congr 1
      funext x
      simp; omega
  · have : j = m.length := by omega
    subst this
    rw [List.drop_length] at hlk
    unfold idx; rw [hlk]; rfl
theorem C74 (w : World) (a : Acc) (n : Int) : Calls Try.prog 74 #[a.v, .int .i64 n] w (fun e w1 => ∃ (r0 : Int), ∃ (r1 : Int), e = .returned (.tuple #[.int .i64 r0, .int .i64 r1]) ∧ (r0 = (atA a n).wr ∧ r1 = (atA a n).wi ∧ Below w.heap.size w w1)) := by
  refine F74_sound a.ms a.mp a.sr a.wr a.wi n (fun r0 r1 w1 => r0 = (atA a n).wr ∧ r1 = (atA a n).wi ∧ Below w.heap.size w w1) w ?_
  unfold F74
  intro w7 hw7
  have r7 : Row5 w7 w.heap.size 87 a := by rw [hw7]; exact Row5.new w a 87
  have b7 : Below w.heap.size w w7 := by rw [hw7]; exact (Below.refl _ _).alloc (Nat.le_refl _) _
  clear hw7
  refine ⟨_, r7.c4, fun hgt => ?_, fun hle => ?_⟩
  · unfold atA; rw [if_pos hgt]; exact ⟨rfl, rfl, b7⟩
  · refine ⟨_, r7.c3, _, r7.c4, ?_⟩
    rintro _ ⟨mm, rfl⟩
    unfold atA; rw [if_neg hle]; exact ⟨rfl, rfl, below_draw b7 mm⟩
theorem C75 (w : World) (n : Int) : Calls Try.prog 75 #[.int .i64 n] w (fun e w1 => ∃ (r0 : Bool), e = .returned (.bool r0 : Value) ∧ (r0 = decide (1 ≤ n ∧ n ≤ 1000000) ∧ w1 = w)) := by
  refine F75_sound n (fun r w1 => r = decide (1 ≤ n ∧ n ≤ 1000000) ∧ w1 = w) w ?_
  unfold F75 F75_j1
  refine ⟨fun h => ⟨?_, rfl⟩, fun h => ⟨?_, rfl⟩⟩
  · by_cases h2 : n ≤ 1000000 <;> simp [h2] <;> omega
  · simp; omega

/-- what a call leaves of the document's book -/
def RfR (w : World) (q : Nat) (m' : Accs) (fp : Nat → Prop) (w1 : World) : Prop := ∃ s' fp', Rf w1 q s' m' fp' ∧ Gr fp w w1 ∧ ∀ k, fp' k → fp k ∨ w.heap.size ≤ k
theorem C67 (h : Rf w q s m fp) (t : ByteArray) (a : Acc) (hl : m.length ≤ 1000000) : Calls Try.prog 67 #[.pointer (some ⟨q, 0, none⟩), .string t, a.v] w (fun e w1 => ∃ (r0 : Int), e = .returned (.int .i64 r0 : Value) ∧ (r0 = putC m t a ∧ RfR w q (putM m t a) fp w1)) := by
  refine F67_sound _ t a.ms a.mp a.sr a.wr a.wi (fun r0 w1 => r0 = putC m t a ∧ RfR w q (putM m t a) fp w1) w ?_
  unfold F67
  intro w8 hw8
  have r8 : Row5 w8 w.heap.size 87 a := by rw [hw8]; exact Row5.new w a 87
  have b8 : Below w.heap.size w w8 := by rw [hw8]; exact (Below.refl _ _).alloc (Nat.le_refl _) _
  clear hw8
  have h8 := h.below b8
  have done : ∀ c : Int, putC m t a = c → c ≠ 0 → c = putC m t a ∧ RfR w q (putM m t a) fp w8 := by
    intro c hc h0
    refine ⟨hc.symm, s, fp, ?_, Gr.below b8, fun k hk => .inl hk⟩
    unfold putM; rw [if_neg (by omega)]; exact h8
  refine ⟨_, r8.c0, (C75 w8 a.ms).mono ?_⟩
  rintro _ w11 ⟨_, rfl, rfl, rfl⟩
  refine ⟨_, rfl, _, r8.c1, (C75 w11 a.mp).mono ?_⟩
  rintro _ w14 ⟨_, rfl, rfl, rfl⟩
  refine ⟨_, rfl, fun hb => ?_, fun hb1 => ⟨fun hb => ?_, fun hb2 => ?_⟩⟩
  · have := of_decide_eq_false hb
    exact done 152 (by unfold putC; rw [if_pos (by omega)]) (by omega)
  · have := of_decide_eq_false hb
    exact done 152 (by unfold putC; rw [if_pos (by omega)]) (by omega)
  have l1 := of_decide_eq_true hb1
  have l2 := of_decide_eq_true hb2
  have hp : putC m t a = if a.sr < 0 ∨ a.sr > a.ms ∨ a.wr < 0 ∨ a.wr > a.mp ∨ a.wi < 0 then 1 else if (look m t).isSome then 163 else 0 := by
    unfold putC; rw [if_neg (by omega)]
  have bad : (a.sr < 0 ∨ a.sr > a.ms ∨ a.wr < 0 ∨ a.wr > a.mp ∨ a.wi < 0) → 1 = putC m t a ∧ RfR w q (putM m t a) fp w14 := fun hbad => done 1 (by rw [hp, if_pos hbad]) (by omega)
  refine ⟨_, r8.c2, fun h1 => bad (by omega), fun h1 => ⟨_, r8.c2, _, r8.c0, fun h2 => bad (by omega), fun h2 => ⟨_, r8.c3, fun h3 => bad (by omega), fun h3 => ⟨_, r8.c3, _, r8.c1, fun h4 => bad (by omega), fun h4 => ⟨_, r8.c4, fun h5 => bad (by omega), fun h5 => ?_⟩⟩⟩⟩⟩
  rw [if_neg (by omega)] at hp
  refine (C73 h8 t hl).mono ?_
  rintro _ w23 ⟨_, rfl, rfl, rfl⟩
  refine ⟨_, rfl, fun hk => ?_, fun hk => ?_⟩
  · have hk : (look m t).isSome = true := by
      cases hs : (look m t).isSome with
      | true => rfl
      | false => have := idx_neg.2 hs; omega
    exact done 163 (by rw [hp, if_pos hk]) (by omega)
  · have hk : (look m t).isSome = false := idx_neg.1 (by omega)
    have hpc : putC m t a = 0 := by rw [hp, hk]; rfl
    rintro _ rfl
    have h24 : Rf w23.drew q s m fp := h8.drawn 1
    have r24 : Row5 w23.drew w.heap.size 87 a := r8.drawn 1
    refine ⟨_, rfl, s, h24.c, a.ms, a.mp, a.sr, a.wr, a.wi, r24.at, ?_⟩
    rintro _ rfl
    obtain ⟨s2, w2, hrun, hap⟩ := apK_one (ty := 119) (w := w23.drew) ty119 enc6_len enc6_one h24.own (t, a) (Nat.zero_le _) (by omega)
    have hg : Gr fp w23.drew w2 := Gr.row hap.grown (fun b hb => (h24.bl b hb).1)
    have hq2 : w2.heap[q]? = some (.cells #[s.v] 121 (0, 0)) := by
      have hg' : Gr (fun k => s.blk = some k) w23.drew w2 := Gr.row hap.grown (fun b hb => hb)
      exact hg'.blk h24.cell (fun e => (h24.bl q e).2 rfl)
    obtain ⟨hc, h36, g36⟩ := h24.slice hg hq2 hap.own (by rcases hap.blk with h | h; exact .inr (.inl h); exact .inr (.inr h))
    refine ⟨s2, w2, hrun, _, rfl, hc, ?_⟩
    rintro _ rfl
    have e : m ++ [(t, a)] = putM m t a := by unfold putM; rw [if_pos hpc]
    rw [e] at h36
    have z24 : w23.drew.heap.size = w23.heap.size := rfl
    have := b8.size
    refine ⟨hpc.symm, s2, _, h36, ((Gr.below b8 (S := fp)).trans (gr_drew w23 1 (S := fun _ => False)) (fun _ _ h => h.elim)).trans g36 (fun _ _ h => h), fun k hk => ?_⟩
    rcases hk with hk | hk
    · exact .inl hk
    · right; omega
theorem C64 (h : Rf w q s m fp) (t : ByteArray) (n k : Int) (hl : m.length ≤ 1000000) : Calls Try.prog 64 #[.pointer (some ⟨q, 0, none⟩), .string t, .int .i64 n, .int .i64 k] w (fun e w1 => ∃ (r0 : Int), e = .returned (.int .i64 r0 : Value) ∧ (r0 = putC m t ⟨n, k, 0, 0, 0⟩ ∧ RfR w q (putM m t ⟨n, k, 0, 0, 0⟩) fp w1)) := by
  refine F64_sound _ t n k (fun r0 w1 => r0 = putC m t ⟨n, k, 0, 0, 0⟩ ∧ RfR w q (putM m t ⟨n, k, 0, 0, 0⟩) fp w1) w ?_
  unfold F64
  exact C67 h t ⟨n, k, 0, 0, 0⟩ hl
theorem C65 (h : Rf w q s m fp) (t : ByteArray) (hl : m.length ≤ 1000000) : Calls Try.prog 65 #[.pointer (some ⟨q, 0, none⟩), .string t] w (fun e w1 => ∃ (r0 : Bool), e = .returned (.bool r0 : Value) ∧ (r0 = (look m t).isSome ∧ RfR w q (del m t) fp w1)) := by
  refine F65_sound _ t (fun r0 w1 => r0 = (look m t).isSome ∧ RfR w q (del m t) fp w1) w ?_
  unfold F65
  have hn := h.len
  have hcap := h.rd.2.1
  refine (C73 h t hl).mono ?_
  rintro _ w4 ⟨_, rfl, rfl, rfl⟩
  refine ⟨_, rfl, fun hk => ?_, fun hk => ?_⟩
  · have hk := idx_neg.1 hk
    refine ⟨hk.symm, s, fp, ?_, Gr.refl _ _, fun k hk => .inl hk⟩
    unfold del
    cases hlk : look m t with
    | none => exact h
    | some x => rw [hlk] at hk; cases hk
  · cases hlk : look m t with
    | none => exact absurd (idx_neg.2 (by rw [hlk]; rfl)) hk
    | some x =>
      obtain ⟨i, a⟩ := x
      have him := look_at hlk
      have hil : i < m.length := (List.getElem?_eq_some_iff.1 him).1
      have hidx : idx m t = (i : Int) := by unfold idx; rw [hlk]
      rw [hidx]
      obtain ⟨s1, w9, hrun1, ap1⟩ := apK_many (ty := 119) (w := w4) (base := w4.heap.size) (s := ⟨none, 0, 0⟩) (xs := []) ty119 enc6_len enc6_one OwnK.nil (h.rd.take i (by omega)) (Nat.le_refl _) (by simp; omega)
      have b9 : Below w4.heap.size w4 w9 := ap1.below (xs := []) OwnK.nil (Nat.le_refl _) (Below.refl _ _)
      have o1 := ap1.own
      rw [List.nil_append] at o1
      have h9 := h.below b9
      have hs9 := b9.size
      refine ⟨_, rfl, s, h.c, ⟨s.a, i, s.c⟩, cutK_hi ty119 s _ i rfl (by omega), s1, w9, hrun1, _, rfl, s, h9.c, ?_⟩
      rw [w_i64 (by omega) (by omega)]
      obtain ⟨s2, w14, hrun2, ap2⟩ := apK_many (ty := 119) (w := w9) ty119 enc6_len enc6_one o1 (h9.rd.drop (i + 1) (by omega)) hs9 (by simp; omega)
      have b14 : Below w4.heap.size w4 w14 := ap2.below o1 hs9 b9
      refine ⟨⟨_, _, _⟩, cutK_lo ty119 s _ (i + 1) (by omega) (by omega), s2, w14, hrun2, _, rfl, ?_⟩
      have e : m.take i ++ m.drop (i + 1) = del m t := by
        unfold del; rw [hlk]; exact (List.eraseIdx_eq_take_drop_succ m i).symm
      have o2 := ap2.own
      rw [e] at o2
      have hq14 : w14.heap[q]? = some (.cells #[s.v] 121 (0, 0)) := (Gr.below b14 (S := fun _ => False)).blk h.cell (fun h => h)
      obtain ⟨hc, h16, g16⟩ := h.slice (Gr.below b14) hq14 (o2.lower (Nat.zero_le _)) (by
        cases hb : s2.blk with
        | none => exact .inl rfl
        | some b => exact .inr (.inr ⟨b, rfl, (o2.blk_ge b hb).1⟩))
      refine ⟨hc, ?_⟩
      rintro _ rfl
      exact ⟨rfl, s2, _, h16, g16, fun k hk => by rcases hk with hk | hk; exact .inl hk; exact .inr hk.1⟩
end
end Go.Proofs.Ythhcaaellhdkiaa
