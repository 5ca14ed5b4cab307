/- The plain law of PostAlgebra. -/
import Derived.Test.YtjgijifankaglaaPC
namespace Go.Proofs.Ytjgijifankaglaa
set_option linter.unusedVariables false

theorem joi_up {o b t : Bool} {a c : List Int} (ha : Up a) (hc : Up c) : Up (joi o b t a c) := by
  unfold joi; rw [up_rise ha, up_rise hc]; exact jn_up a c ha hc
theorem joi_mem {o b t : Bool} {a c : List Int} {z : Int} (ha : Up a) (hc : Up c) : z ∈ joi o b t a c ↔ (o = true ∧ z ∈ a ∧ z ∉ c) ∨ (b = true ∧ z ∈ a ∧ z ∈ c) ∨ (t = true ∧ z ∉ a ∧ z ∈ c) := by
  unfold joi; rw [up_rise ha, up_rise hc]; exact jn_mem a c ha hc
section
variable {A Y : List Int} (ha : Up A) (hy : Up Y)
include ha hy in
theorem alg1 : joi true true true (joi false true false A Y) (joi true false false A Y) = A := by
  have h1 := joi_up (o := false) (b := true) (t := false) ha hy
  have h2 := joi_up (o := true) (b := false) (t := false) ha hy
  refine up_ext (joi_up h1 h2) ha (fun x => ?_)
  rw [joi_mem h1 h2, joi_mem ha hy, joi_mem ha hy]
  by_cases p : x ∈ A <;> by_cases q : x ∈ Y <;> simp [p, q]
include ha hy in
theorem alg2 : joi false true false Y A = joi false true false A Y := by
  refine up_ext (joi_up hy ha) (joi_up ha hy) (fun x => ?_)
  rw [joi_mem hy ha, joi_mem ha hy]
  by_cases p : x ∈ A <;> by_cases q : x ∈ Y <;> simp [p, q]
include ha hy in
theorem alg3 : joi true true true A Y = joi true true true Y A := by
  refine up_ext (joi_up ha hy) (joi_up hy ha) (fun x => ?_)
  rw [joi_mem hy ha, joi_mem ha hy]
  by_cases p : x ∈ A <;> by_cases q : x ∈ Y <;> simp [p, q]
include ha hy in
theorem alg4 : joi true false false A (joi true false false A Y) = joi false true false A Y := by
  have h2 := joi_up (o := true) (b := false) (t := false) ha hy
  refine up_ext (joi_up ha h2) (joi_up ha hy) (fun x => ?_)
  rw [joi_mem ha h2, joi_mem ha hy, joi_mem ha hy]
  by_cases p : x ∈ A <;> by_cases q : x ∈ Y <;> simp [p, q]
include ha hy in
theorem alg5 : joi false true false (joi true false false A Y) Y = [] := by
  have h2 := joi_up (o := true) (b := false) (t := false) ha hy
  refine up_ext (joi_up h2 hy) List.Pairwise.nil (fun x => ?_)
  rw [joi_mem h2 hy, joi_mem ha hy]
  by_cases p : x ∈ A <;> by_cases q : x ∈ Y <;> simp [p, q]
include ha in
theorem addS_up (n : Int) : Up (addS A n).1 ∧ (∀ x, x ∈ (addS A n).1 ↔ x = n ∨ x ∈ A) ∧ (addS A n).2 = !decide (n ∈ A) := by
  unfold addS
  rw [if_pos (up_rise ha)]
  by_cases h : n ∈ A
  · rw [if_pos h]
    refine ⟨ha, fun x => ⟨fun hx => .inr hx, fun hx => ?_⟩, by simp [h]⟩
    rcases hx with rfl | hx
    · exact h
    · exact hx
  · rw [if_neg h]
    exact ⟨ins_up ha h, fun x => ins_mem, by simp [h]⟩
include ha in
theorem takS_up (n : Int) : Up (takS A n).1 ∧ (∀ x, x ∈ (takS A n).1 ↔ x ∈ A ∧ x ≠ n) ∧ (takS A n).2 = decide (n ∈ A) := by
  unfold takS
  rw [if_pos (up_rise ha)]
  exact ⟨ha.sublist List.filter_sublist, fun x => by simp, rfl⟩
include ha in
theorem hasS_up (n : Int) : hasS A n = decide (n ∈ A) := by unfold hasS; rw [up_rise ha]; rfl
end
theorem gp_bys : ∀ (l : List Int) (p : Int), bys (gp p l)
  | [], p => by intro x hx; simp [gp] at hx
  | x :: l, p => by rw [gp]; exact bys_append (uv_bys _) (gp_bys l x)
theorem gp_ge : ∀ (l : List Int) (p : Int), l.length ≤ (gp p l).length
  | [], p => by simp
  | x :: l, p => by
    rw [gp, List.length_append, List.length_cons]
    have := gp_ge l x
    have := uv_pos (x - p - 1).toNat
    omega
theorem getF_gp (bs : List Int) : ∀ (l : List Int) (p : Int) (a : Nat) (acc rest : List Int), bs.drop a = gp p l ++ rest → -1 ≤ p → (∀ x ∈ l, p < x) → Up l → u32s l →
    getF bs l.length a (p + 1) acc = (acc ++ l, ((a + (gp p l).length : Nat) : Int))
  | [], p, a, acc, rest, hd, h1, h2, hu, hr => by simp [getF, gp]
  | x :: l, p, a, acc, rest, hd, h1, h2, hu, hr => by
    have hx := hr x (by simp)
    have hpx := h2 x (by simp)
    rw [gp, List.append_assoc] at hd
    have hun := uint_uv (n := (x - p - 1).toNat) (by omega) (gp x l ++ rest)
    have hpos := uv_pos (x - p - 1).toNat
    rw [List.length_cons, getF, hd, hun]
    dsimp only
    rw [if_neg (by omega), if_neg (by omega), if_neg (by omega)]
    have hd2 : bs.drop (a + (uv (x - p - 1).toNat).length) = gp x l ++ rest := by
      rw [← List.drop_drop, hd, List.drop_left]
    have hu' := List.pairwise_cons.1 hu
    have ih := getF_gp bs l x (a + (uv (x - p - 1).toNat).length) (acc ++ [x]) rest hd2 (by omega) hu'.1 hu'.2 (fun y hy => hr y (List.mem_cons_of_mem _ hy))
    rw [Int.toNat_natCast, show p + 1 + ((x - p - 1).toNat : Int) = x by omega, ih, gp, List.length_append]
    simp [Nat.add_assoc]
theorem get_put {l rest : List Int} (hu : Up l) (hr : u32s l) (hl : l.length ≤ 1000000) : getS (uv l.length ++ gp (-1) l ++ rest) = (l, (((uv l.length).length + (gp (-1) l).length : Nat) : Int)) := by
  have hun := uint_uv (n := l.length) (by omega) (gp (-1) l ++ rest)
  have hpos := uv_pos l.length
  have hge := gp_ge l (-1)
  unfold getS
  rw [List.append_assoc, hun]
  dsimp only
  rw [if_neg (by omega), if_neg (by rw [List.length_append, List.length_append]; omega)]
  have := getF_gp (uv l.length ++ (gp (-1) l ++ rest)) l (-1) (uv l.length).length [] rest (by rw [List.drop_left]) (by omega) (fun x hx => by have := hr x hx; omega) hu hr
  rw [Int.toNat_natCast, Int.toNat_natCast]
  rw [show (-1 : Int) + 1 = 0 from rfl, List.nil_append] at this
  exact this
end Go.Proofs.Ytjgijifankaglaa
