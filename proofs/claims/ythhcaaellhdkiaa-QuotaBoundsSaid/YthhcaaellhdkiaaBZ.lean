/- A row that is cleared behind some place, and cut there. -/
import Derived.Test.YthhcaaellhdkiaaBY
import Derived.Lib.SliceRun
namespace Go.Proofs.Ythhcaaellhdkiaa
open Go Go.RowKit Go.Proofs.Ythhcaaellhdkiaa.SX
set_option linter.unusedVariables false

theorem SX.Own.sets {α : Type} {enc : α → Value} {e base g : Nat} {s : Sl} : ∀ (ys xs : List α) (i : Nat) (w : World), Own enc e base w s xs → s.a = some ⟨g, 0, none⟩ → i + ys.length ≤ xs.length →
    Own enc e base (w.setCells g i (ys.map enc)) s (xs.take i ++ ys ++ xs.drop (i + ys.length)) ∧ w.grownBy (w.setCells g i (ys.map enc)) (some g)
  | [], xs, i, w, ho, hs, hl => by
    simp only [List.map_nil, World.setCells, List.append_nil, List.length_nil, Nat.add_zero, List.take_append_drop]
    exact ⟨ho, World.grownBy.refl _ _⟩
  | y :: ys, xs, i, w, ho, hs, hl => by
    simp only [List.length_cons] at hl
    obtain ⟨a, ha, hab, hc, ho2, hg⟩ := ho.set i (by omega) y
    rw [hs] at ha; cases ha
    rw [add_lit] at ho2 hg
    have hb : s.blk = some g := hab
    rw [hb] at hg
    obtain ⟨h1, h2⟩ := SX.Own.sets ys (xs.set i y) (i + 1) (w.setCell ⟨g, i, none⟩ (enc y)) ho2 hs (by simp; omega)
    simp only [List.map_cons, World.setCells]
    refine ⟨?_, hg.trans h2⟩
    have e1 : (xs.set i y).take (i + 1) = xs.take i ++ [y] := by
      rw [List.take_add_one, List.take_set, List.set_eq_of_length_le (by simp; omega)]
      simp [show i < xs.length by omega]
    have e2 : (xs.set i y).drop (i + 1 + ys.length) = xs.drop (i + (y :: ys).length) := by
      rw [List.drop_set, if_pos (by omega)]
      congr 1; simp; omega
    rw [e1, e2, List.append_assoc _ [y]] at h1
    exact h1
theorem SX.Own.short {α : Type} {enc : α → Value} {e base : Nat} {w : World} {s : Sl} {xs : List α} (ho : Own enc e base w s xs) (m : Nat) (hm : m ≤ xs.length) : Own enc e base w ⟨s.a, m, s.c⟩ (xs.take m) := by
  rcases ho.form with ⟨rfl, rfl⟩ | ⟨g, cap, cur, rfl, h2, h3, h4, h5, h6, h7⟩
  · simp at hm; subst hm; exact Own.nil
  · refine ⟨by simp; omega, .inr ⟨g, cap, cur, rfl, h2, h3, by simp only; omega, h5, by simpa using h6, ?_⟩⟩
    simp only [Nat.mul_one, List.map_take]
    rw [← h7, List.take_take, Nat.min_eq_left hm]
theorem cut_byte {l : List Bool} {n : Nat} (hn : n ≤ l.length) (h8 : n % 8 ≠ 0) : byteAt (l.take n) (n / 8) = byteAt l (n / 8) / 2 ^ (8 - n % 8) * 2 ^ (8 - n % 8) := by
  have e : ((l.take n).drop (8 * (n / 8))).take 8 = (((l.drop (8 * (n / 8))).take 8).take (n % 8)) := by
    rw [List.drop_take, List.take_take, List.take_take]
    congr 1; omega
  have hr : n % 8 ≤ ((l.drop (8 * (n / 8))).take 8).length := by simp; omega
  have hp8 : ((l.drop (8 * (n / 8))).take 8).length ≤ 8 := by simp; omega
  unfold byteAt
  rw [e]
  generalize (l.drop (8 * (n / 8))).take 8 = p at hr hp8 ⊢
  have hr8 : n % 8 < 8 := Nat.mod_lt _ (by omega)
  generalize n % 8 = r at hr h8 hr8 ⊢
  have hsplit : num p = num (p.take r) * 2 ^ (p.length - r) + num (p.drop r) := by
    conv => lhs; rw [← List.take_append_drop r p, num_append]
    simp
  have hlow : num (p.drop r) * 2 ^ (8 - p.length) < 2 ^ (8 - r) := by
    have h1 := num_lt (p.drop r)
    simp only [List.length_drop] at h1
    have := Nat.mul_lt_mul_of_pos_right h1 (Nat.two_pow_pos (8 - p.length))
    rw [← Nat.pow_add, show p.length - r + (8 - p.length) = 8 - r by omega] at this
    exact this
  have hval : num p * 2 ^ (8 - p.length) = 2 ^ (8 - r) * num (p.take r) + num (p.drop r) * 2 ^ (8 - p.length) := by
    rw [hsplit, Nat.add_mul, Nat.mul_assoc, ← Nat.pow_add, show p.length - r + (8 - p.length) = 8 - r by omega, Nat.mul_comm (num (p.take r))]
  rw [hval, Nat.mul_add_div (Nat.two_pow_pos _), Nat.div_eq_of_lt hlow, Nat.add_zero]
  simp [Nat.min_eq_left hr]
theorem mask_cut {x c : Nat} (hx : x < 256) (hc : c ≤ 8) : ibits .and .u8 (x : Int) (ishl .u8 255 (c : Int)) = ((x / 2 ^ c * 2 ^ c : Nat) : Int) := by
  have h : ∀ c : Fin 9, ∀ x : Fin 256, ibits .and .u8 (x.val : Int) (ishl .u8 255 (c.val : Int)) = ((x.val / 2 ^ c.val * 2 ^ c.val : Nat) : Int) := by decide +kernel
  exact h ⟨c, by omega⟩ ⟨x, hx⟩
end Go.Proofs.Ythhcaaellhdkiaa
