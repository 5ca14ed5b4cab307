/- A book of one's own; the document's examples; QuotaBounds, walked. -/
import Derived.Test.YthhcaaellhdkiaaQC
import Derived.Test.YthhcaaellhdkiaaGQ6
import Derived.Test.YthhcaaellhdkiaaQR
namespace Go.Proofs.Ythhcaaellhdkiaa
open Go Go.RowKit Go.Proofs.Ythhcaaellhdkiaa.SX
set_option linter.unusedVariables false

theorem inv_put {m : Accs} (h : Inv m) (t : ByteArray) (a : Acc) (ha : a.wi ≤ 9223372036854775807) : Inv (putM m t a) := by
  unfold putM
  split
  · rename_i h0
    intro x hx
    rcases List.mem_append.1 hx with hx | hx
    · exact h x hx
    · simp at hx
      subst hx
      unfold putC at h0
      split at h0
      · omega
      · split at h0
        · omega
        · show a.ok
          exact ⟨by omega, by omega, by omega, by omega, by omega, by omega, by omega, by omega, by omega, ha⟩
  · exact h
theorem inv_put' {m : Accs} (h : Inv m) (t : ByteArray) (a : Acc) (ha : a.ok) : Inv (put m t a) := by
  unfold put
  split
  · intro x hx
    rcases List.mem_or_eq_of_mem_set hx with hx | hx
    · exact h x hx
    · subst hx; exact ha
  · intro x hx
    rcases List.mem_append.1 hx with hx | hx
    · exact h x hx
    · simp at hx
      subst hx; exact ha
theorem inv_take {m : Accs} (h : Inv m) (t : ByteArray) (win n k : Int) (hw : win ≤ 9223372036854775807) : Inv (takeM m t win n k) := by
  unfold takeM
  split
  · rename_i h0
    refine inv_put' h t _ ?_
    unfold takeC at h0
    split at h0
    · omega
    · rename_i hk
      have hk : (look m t).isSome = true := by cases hs : (look m t).isSome <;> simp_all
      have hok := getA_ok h t hk
      have hwr := atA_wr (getA_low h t) win
      have hs := atA_same (getA m t) win
      split at h0
      · omega
      · split at h0
        · omega
        · split at h0
          · omega
          · obtain ⟨a1, a2, b1, b2, c1, c2, d1, d2, e1, e2⟩ := hok
            unfold takeA
            refine ⟨by simp only; omega, by simp only; omega, by simp only; omega, by simp only; omega, by simp only; omega, by simp only; omega, by simp only; omega, by simp only; omega, ?_, ?_⟩
            · simp only; unfold atA; split <;> (try simp only) <;> omega
            · simp only; unfold atA; split <;> (try simp only) <;> omega
  · exact h
theorem inv_del {m : Accs} (h : Inv m) (t : ByteArray) : Inv (del m t) := by
  unfold del
  split
  · intro x hx; exact h x (List.mem_of_mem_eraseIdx hx)
  · exact h
theorem inv_nil : Inv [] := fun x hx => by simp at hx

/-- a book of one's own, made behind w0 -/
structure OB (w0 w : World) (q b : Nat) (m : Accs) : Prop where
  bk : Bk w q b m
  q0 : w0.heap.size ≤ q
  b0 : w0.heap.size ≤ b
  bel : Below w0.heap.size w0 w
  inv : Inv m
section
variable {w0 w w' : World} {q b : Nat} {m : Accs}
theorem OB.below (h : OB w0 w q b m) (hb : Below w.heap.size w w') : OB w0 w' q b m :=
  ⟨h.bk.keep (S := fun _ => False) (Gr.below hb) (fun h => h) (fun h => h), h.q0, h.b0, h.bel.trans (hb.mono h.bel.size), h.inv⟩
theorem OB.new (h : Below w0.heap.size w0 w) : Calls Try.prog 28 #[] w (fun e w1 => ∃ (r : Option Addr), e = .returned (.pointer r : Value) ∧ (∃ q b, r = some ⟨q, 0, none⟩ ∧ OB w0 w1 q b [])) := by
  refine (C28 w).mono ?_
  rintro _ w1 ⟨_, rfl, q, b, rfl, h1, hq, hb, hbel⟩
  have := h.size
  exact ⟨_, rfl, q, b, rfl, h1, by omega, by omega, h.trans (hbel.mono h.size), inv_nil⟩
theorem OB.step (h : OB w0 w q b m) {m' : Accs} {w1 : World} (hb : Bk w1 q b m') (hg : Gr (fun k => k = b) w w1) (hi : Inv m') : OB w0 w1 q b m' :=
  ⟨hb, h.q0, h.b0, h.bel.trans (hg.toBelow h.bel.size (fun k hk => by have := h.b0; omega)), hi⟩
theorem OB.set (h : OB w0 w q b m) (t : ByteArray) (n k : Int) : Calls Try.prog 29 #[.pointer (some ⟨q, 0, none⟩), .string t, .int .i64 n, .int .i64 k] w (fun e w1 => ∃ (r0 : Int), e = .returned (.int .i64 r0 : Value) ∧ (r0 = putC m t ⟨n, k, 0, 0, 0⟩ ∧ OB w0 w1 q b (putM m t ⟨n, k, 0, 0, 0⟩) ∧ Gr (fun k => k = b) w w1)) := by
  refine (C29 h.bk h.inv t n k).mono ?_
  rintro _ w1 ⟨_, rfl, rfl, h1, hg⟩
  exact ⟨_, rfl, rfl, h.step h1 hg (inv_put h.inv t _ (by simp)), hg⟩
theorem OB.put (h : OB w0 w q b m) (t : ByteArray) (a : Acc) (ha : a.wi ≤ 9223372036854775807) : Calls Try.prog 48 #[.pointer (some ⟨q, 0, none⟩), .string t, a.v] w (fun e w1 => ∃ (r0 : Int), e = .returned (.int .i64 r0 : Value) ∧ (r0 = putC m t a ∧ OB w0 w1 q b (putM m t a) ∧ Gr (fun k => k = b) w w1)) := by
  refine (C48 h.bk h.inv t a).mono ?_
  rintro _ w1 ⟨_, rfl, rfl, h1, hg⟩
  exact ⟨_, rfl, rfl, h.step h1 hg (inv_put h.inv t _ ha), hg⟩
theorem OB.take (h : OB w0 w q b m) (t : ByteArray) (win n k : Int) (hw : win ≤ 9223372036854775807) : Calls Try.prog 31 #[.pointer (some ⟨q, 0, none⟩), .string t, .int .i64 win, .int .i64 n, .int .i64 k] w (fun e w1 => ∃ (r0 : Int), e = .returned (.int .i64 r0 : Value) ∧ (r0 = takeC m t win n k ∧ OB w0 w1 q b (takeM m t win n k) ∧ Gr (fun k => k = b) w w1)) := by
  refine (C31 h.bk h.inv t win n k).mono ?_
  rintro _ w1 ⟨_, rfl, rfl, h1, hg⟩
  exact ⟨_, rfl, rfl, h.step h1 hg (inv_take h.inv t win n k hw), hg⟩
theorem OB.room (h : OB w0 w q b m) (t : ByteArray) (n : Int) : Calls Try.prog 30 #[.pointer (some ⟨q, 0, none⟩), .string t, .int .i64 n] w (fun e w1 => ∃ (r0 : Int), ∃ (r1 : Int), e = .returned (.tuple #[.int .i64 r0, .int .i64 r1]) ∧ (r0 = (getA m t).ms - (getA m t).sr ∧ r1 = (getA m t).mp - (atA (getA m t) n).wr ∧ Below w.heap.size w w1 ∧ OB w0 w1 q b m)) := by
  refine (C30 h.bk h.inv t n).mono ?_
  rintro _ w1 ⟨_, _, rfl, rfl, rfl, hb⟩
  exact ⟨_, _, rfl, rfl, rfl, hb, h.below hb⟩
theorem OB.drop (h : OB w0 w q b m) (t : ByteArray) : Calls Try.prog 47 #[.pointer (some ⟨q, 0, none⟩), .string t] w (fun e w1 => ∃ (r0 : Bool), e = .returned (.bool r0 : Value) ∧ (r0 = (look m t).isSome ∧ OB w0 w1 q b (del m t) ∧ Gr (fun k => k = b) w w1)) := by
  refine (C47 h.bk t).mono ?_
  rintro _ w1 ⟨_, rfl, rfl, h1, hg⟩
  exact ⟨_, rfl, rfl, h.step h1 hg (inv_del h.inv t), hg⟩
end
theorem C27 (w : World) : Calls Try.prog 27 #[] w (fun e w1 => ∃ (r0 : Bool), e = .returned (.bool r0 : Value) ∧ (r0 = true ∧ Below w.heap.size w w1)) := by
  refine F27_sound (fun r0 w1 => r0 = true ∧ Below w.heap.size w w1) w ?_
  unfold F27
  refine (OB.new (Below.refl w.heap.size w)).mono ?_
  rintro _ w2 ⟨_, rfl, q, b, rfl, h2⟩
  refine ⟨_, rfl, (fun h => nomatch h), fun _ => ?_⟩
  refine (h2.set (ByteArray.mk #[97]) 2 10).mono ?_
  have e1 : putM [] (ByteArray.mk #[97]) ⟨2, 10, 0, 0, 0⟩ = [(ByteArray.mk #[97], ⟨2, 10, 0, 0, 0⟩)] := rfl
  have f1 : putC [] (ByteArray.mk #[97]) ⟨2, 10, 0, 0, 0⟩ = 0 := rfl
  rw [e1, f1]
  rintro _ w4 ⟨_, rfl, rfl, h4, _⟩
  refine ⟨_, rfl, (h4.set (ByteArray.mk #[97]) 2 10).mono ?_⟩
  have e2 : putM [(ByteArray.mk #[97], ⟨2, 10, 0, 0, 0⟩)] (ByteArray.mk #[97]) ⟨2, 10, 0, 0, 0⟩ = [(ByteArray.mk #[97], ⟨2, 10, 0, 0, 0⟩)] := rfl
  have f2 : putC [(ByteArray.mk #[97], ⟨2, 10, 0, 0, 0⟩)] (ByteArray.mk #[97]) ⟨2, 10, 0, 0, 0⟩ = 163 := rfl
  rw [e2, f2]
  rintro _ w6 ⟨_, rfl, rfl, h6, _⟩
  refine ⟨_, rfl, (h6.set (ByteArray.mk #[98]) 0 1).mono ?_⟩
  have e3 : putM [(ByteArray.mk #[97], ⟨2, 10, 0, 0, 0⟩)] (ByteArray.mk #[98]) ⟨0, 1, 0, 0, 0⟩ = [(ByteArray.mk #[97], ⟨2, 10, 0, 0, 0⟩)] := rfl
  have f3 : putC [(ByteArray.mk #[97], ⟨2, 10, 0, 0, 0⟩)] (ByteArray.mk #[98]) ⟨0, 1, 0, 0, 0⟩ = 152 := rfl
  rw [e3, f3]
  rintro _ w8 ⟨_, rfl, rfl, h8, _⟩
  refine ⟨_, rfl, (h8.take (ByteArray.mk #[97]) 7 1 8 (by omega)).mono ?_⟩
  have e4 : takeM [(ByteArray.mk #[97], ⟨2, 10, 0, 0, 0⟩)] (ByteArray.mk #[97]) 7 1 8 = [(ByteArray.mk #[97], ⟨2, 10, 1, 8, 7⟩)] := rfl
  have f4 : takeC [(ByteArray.mk #[97], ⟨2, 10, 0, 0, 0⟩)] (ByteArray.mk #[97]) 7 1 8 = 0 := rfl
  rw [e4, f4]
  rintro _ w10 ⟨_, rfl, rfl, h10, _⟩
  refine ⟨_, rfl, (h10.take (ByteArray.mk #[97]) 7 0 3 (by omega)).mono ?_⟩
  have e5 : takeM [(ByteArray.mk #[97], ⟨2, 10, 1, 8, 7⟩)] (ByteArray.mk #[97]) 7 0 3 = [(ByteArray.mk #[97], ⟨2, 10, 1, 8, 7⟩)] := rfl
  have f5 : takeC [(ByteArray.mk #[97], ⟨2, 10, 1, 8, 7⟩)] (ByteArray.mk #[97]) 7 0 3 = 151 := rfl
  rw [e5, f5]
  rintro _ w12 ⟨_, rfl, rfl, h12, _⟩
  refine ⟨_, rfl, (h12.take (ByteArray.mk #[97]) 8 2 11 (by omega)).mono ?_⟩
  have e6 : takeM [(ByteArray.mk #[97], ⟨2, 10, 1, 8, 7⟩)] (ByteArray.mk #[97]) 8 2 11 = [(ByteArray.mk #[97], ⟨2, 10, 1, 8, 7⟩)] := rfl
  have f6 : takeC [(ByteArray.mk #[97], ⟨2, 10, 1, 8, 7⟩)] (ByteArray.mk #[97]) 8 2 11 = 150 := rfl
  rw [e6, f6]
  rintro _ w14 ⟨_, rfl, rfl, h14, _⟩
  refine ⟨_, rfl, (h14.take (ByteArray.mk #[97]) 5 0 2 (by omega)).mono ?_⟩
  have e7 : takeM [(ByteArray.mk #[97], ⟨2, 10, 1, 8, 7⟩)] (ByteArray.mk #[97]) 5 0 2 = [(ByteArray.mk #[97], ⟨2, 10, 1, 10, 7⟩)] := rfl
  have f7 : takeC [(ByteArray.mk #[97], ⟨2, 10, 1, 8, 7⟩)] (ByteArray.mk #[97]) 5 0 2 = 0 := rfl
  rw [e7, f7]
  rintro _ w16 ⟨_, rfl, rfl, h16, _⟩
  refine ⟨_, rfl, (h16.take (ByteArray.mk #[99]) 1 1 1 (by omega)).mono ?_⟩
  have e8 : takeM [(ByteArray.mk #[97], ⟨2, 10, 1, 10, 7⟩)] (ByteArray.mk #[99]) 1 1 1 = [(ByteArray.mk #[97], ⟨2, 10, 1, 10, 7⟩)] := rfl
  have f8 : takeC [(ByteArray.mk #[97], ⟨2, 10, 1, 10, 7⟩)] (ByteArray.mk #[99]) 1 1 1 = 171 := rfl
  rw [e8, f8]
  rintro _ w18 ⟨_, rfl, rfl, h18, _⟩
  refine ⟨_, rfl, (h18.room (ByteArray.mk #[97]) 3).mono ?_⟩
  have g1 : getA [(ByteArray.mk #[97], ⟨2, 10, 1, 10, 7⟩)] (ByteArray.mk #[97]) = ⟨2, 10, 1, 10, 7⟩ := rfl
  rw [g1]
  rintro _ w21 ⟨_, _, rfl, rfl, rfl, _, h21⟩
  refine ⟨_, _, rfl, (h21.room (ByteArray.mk #[97]) 8).mono ?_⟩
  rw [g1]
  rintro _ w24 ⟨_, _, rfl, rfl, rfl, _, h24⟩
  refine ⟨_, _, rfl, (h24.drop (ByteArray.mk #[97])).mono ?_⟩
  have e9 : del [(ByteArray.mk #[97], ⟨2, 10, 1, 10, 7⟩)] (ByteArray.mk #[97]) = [] := rfl
  have f9 : (look [(ByteArray.mk #[97], ⟨2, 10, 1, 10, 7⟩)] (ByteArray.mk #[97])).isSome = true := rfl
  rw [e9, f9]
  rintro _ w26 ⟨_, rfl, rfl, h26, _⟩
  refine ⟨_, rfl, (h26.drop (ByteArray.mk #[97])).mono ?_⟩
  have f10 : (look [] (ByteArray.mk #[97])).isSome = false := rfl
  rw [f10]
  rintro _ w28 ⟨_, rfl, rfl, h28, _⟩
  refine ⟨_, rfl, fun _ => ⟨fun _ => ⟨fun _ => ⟨fun _ => ⟨fun _ => ⟨fun _ => ⟨fun _ => ?_, fun h => absurd rfl h⟩, fun h => absurd rfl h⟩, fun h => absurd rfl h⟩, fun h => absurd rfl h⟩, fun h => absurd rfl h⟩, fun h => absurd rfl h⟩, fun h => absurd rfl h⟩
  unfold F27_j1 F27_j2
  exact ⟨fun _ => ⟨fun _ => ⟨fun _ => ⟨fun _ => ⟨fun _ => ⟨fun _ => ⟨rfl, h28.bel⟩, (fun h => nomatch h)⟩, fun h => absurd rfl h⟩, fun h => absurd rfl h⟩, fun h => absurd rfl h⟩, fun h => absurd rfl h⟩, (fun h => nomatch h)⟩
end Go.Proofs.Ythhcaaellhdkiaa
