/- SHA-256 on both sides: turns, and the plain law of a block. -/
import Derived.Test.YtjgijifankaglaaSB
import Derived.Test.YtjgijifankaglaaGSb
namespace Go.Proofs.Ytjgijifankaglaa
open Go Go.RowKit Go.Proofs.Ytjgijifankaglaa.SX
set_option linter.unusedVariables false

def rr (x n : Int) : Int := ibits .or .u32 (ishr .u32 x n) (ishl .u32 x (IntKind.i64.wrap (32 - n)))
theorem or_comm32 (a b : Int) : ibits .or .u32 a b = ibits .or .u32 b a := by
  show IntKind.u32.wrap ((BitVec.ofInt 32 a ||| BitVec.ofInt 32 b).toNat : Int) = IntKind.u32.wrap ((BitVec.ofInt 32 b ||| BitVec.ofInt 32 a).toNat : Int)
  rw [BitVec.or_comm]
theorem C99 (x n : Int) (w : World) (hn : ibits .and .u64 (IntKind.u64.wrap (IntKind.i64.wrap (0 - n))) 31 = 32 - n) (h0 : 0 < n) (h32 : n < 32) : Calls Try.prog 99 #[.int .u32 x, .int .i64 n] w (fun e w1 => ∃ (r0 : Int), e = .returned (.int .u32 r0) ∧ (r0 = rr x n ∧ w1 = w)) := by
  refine F99_sound x n (fun r0 w1 => r0 = rr x n ∧ w1 = w) w ?_
  unfold F99
  refine F110_sound x _ (fun r0 w1 => r0 = rr x n ∧ w1 = w) w ?_
  unfold F110
  rw [hn, w_u64 (n := 32 - (32 - n)) (by omega) (by omega)]
  refine ⟨by omega, by omega, ?_, rfl⟩
  unfold rr
  rw [or_comm32, w_i64 (by omega) (by omega), show (32 : Int) - (32 - n) = n by omega]
theorem C95 (x n : Int) (w : World) (h0 : 0 < n) (h32 : n < 32) : Calls Try.prog 95 #[.int .u32 x, .int .i64 n] w (fun e w1 => ∃ (r0 : Int), e = .returned (.int .u32 r0) ∧ (r0 = rr x n ∧ ∃ m, w1 = w.drewN m)) := by
  refine F95_sound x n (fun r0 w1 => r0 = rr x n ∧ ∃ m, w1 = w.drewN m) w ?_
  unfold F95
  refine ⟨by omega, by rw [w_i64 (by omega) (by omega)]; omega, ?_⟩
  rintro w3 hm
  exact ⟨rfl, hm⟩
def u32w (n : Int) : Int := IntKind.u32.wrap n
def m16 (bs : List Int) (i : Nat) : Int := ibits .or .u32 (ibits .or .u32 (ibits .or .u32 (IntKind.u32.wrap ((IntKind.u32.wrap (bs.getD (4 * i) 0)) * 2 ^ 24)) (IntKind.u32.wrap ((IntKind.u32.wrap (bs.getD (4 * i + 1) 0)) * 2 ^ 16))) (IntKind.u32.wrap ((IntKind.u32.wrap (bs.getD (4 * i + 2) 0)) * 2 ^ 8))) (IntKind.u32.wrap (bs.getD (4 * i + 3) 0))
def wn (x y p q : Int) : Int := IntKind.u32.wrap ((IntKind.u32.wrap ((IntKind.u32.wrap ((ibits .xor .u32 (ibits .xor .u32 (rr x 17) (rr x 19)) (Int.fdiv x (2 ^ 10))) + p)) + (ibits .xor .u32 (ibits .xor .u32 (rr y 7) (rr y 18)) (Int.fdiv y (2 ^ 3))))) + q)
def Wt (bs : List Int) (i : Nat) : Int := if h : i < 16 then m16 bs i else wn (Wt bs (i - 2)) (Wt bs (i - 15)) (Wt bs (i - 7)) (Wt bs (i - 16))
termination_by i
decreasing_by all_goals omega
theorem Wt_lo {bs : List Int} {i : Nat} (h : i < 16) : Wt bs i = m16 bs i := by rw [Wt, dif_pos h]
theorem Wt_hi {bs : List Int} {i : Nat} (h : ¬ i < 16) : Wt bs i = wn (Wt bs (i - 2)) (Wt bs (i - 15)) (Wt bs (i - 7)) (Wt bs (i - 16)) := by rw [Wt, dif_neg h]
def T1 (e f g h k w : Int) : Int := IntKind.u32.wrap ((IntKind.u32.wrap ((IntKind.u32.wrap ((IntKind.u32.wrap (h + (ibits .xor .u32 (ibits .xor .u32 (rr e 6) (rr e 11)) (rr e 25)))) + (ibits .xor .u32 (ibits .and .u32 e f) (ibits .and .u32 (ibits .xor .u32 4294967295 e) g)))) + k)) + w)
def T2 (a b c : Int) : Int := IntKind.u32.wrap ((ibits .xor .u32 (ibits .xor .u32 (rr a 2) (rr a 13)) (rr a 22)) + (ibits .xor .u32 (ibits .xor .u32 (ibits .and .u32 a b) (ibits .and .u32 a c)) (ibits .and .u32 b c)))
structure S8 where
  a : Int
  b : Int
  c : Int
  d : Int
  e : Int
  f : Int
  g : Int
  h : Int
def S8.cells (s : S8) : Array Value := #[.int .u32 s.a, .int .u32 s.b, .int .u32 s.c, .int .u32 s.d, .int .u32 s.e, .int .u32 s.f, .int .u32 s.g, .int .u32 s.h]
def S8.step (s : S8) (k w : Int) : S8 := ⟨IntKind.u32.wrap (T1 s.e s.f s.g s.h k w + T2 s.a s.b s.c), s.a, s.b, s.c, IntKind.u32.wrap (s.d + T1 s.e s.f s.g s.h k w), s.e, s.f, s.g⟩
def S8.run (s : S8) (K W : Nat → Int) : Nat → S8
  | 0 => s
  | n + 1 => (s.run K W n).step (K n) (W n)
def S8.at (s : S8) : Nat → Int
  | 0 => s.a | 1 => s.b | 2 => s.c | 3 => s.d | 4 => s.e | 5 => s.f | 6 => s.g | _ => s.h
def S8.add (s t : S8) : S8 := ⟨IntKind.u32.wrap (s.a + t.a), IntKind.u32.wrap (s.b + t.b), IntKind.u32.wrap (s.c + t.c), IntKind.u32.wrap (s.d + t.d), IntKind.u32.wrap (s.e + t.e), IntKind.u32.wrap (s.f + t.f), IntKind.u32.wrap (s.g + t.g), IntKind.u32.wrap (s.h + t.h)⟩
/-- a block -/
def S8.block (K : Nat → Int) (s : S8) (bs : List Int) : S8 := s.add (s.run K (Wt bs) 64)
theorem cells_at (s : S8) {i : Nat} (h : i < 8) : s.cells[i]? = some (.int .u32 (s.at i)) := by
  match i, h with
  | 0, _ => rfl
  | 1, _ => rfl
  | 2, _ => rfl
  | 3, _ => rfl
  | 4, _ => rfl
  | 5, _ => rfl
  | 6, _ => rfl
  | 7, _ => rfl
theorem add_at (s t : S8) {i : Nat} (h : i < 8) : (s.add t).at i = IntKind.u32.wrap (s.at i + t.at i) := by
  match i, h with
  | 0, _ => rfl
  | 1, _ => rfl
  | 2, _ => rfl
  | 3, _ => rfl
  | 4, _ => rfl
  | 5, _ => rfl
  | 6, _ => rfl
  | 7, _ => rfl
theorem cells_of {cs : Array Value} {s : S8} (hs : cs.size = 8) (h : ∀ i, i < 8 → cs[i]? = some (.int .u32 (s.at i))) : cs = s.cells := by
  apply Array.ext_getElem?
  intro j
  by_cases hj : j < 8
  · rw [h j hj, cells_at s hj]
  · rw [Array.getElem?_eq_none (by omega), Array.getElem?_eq_none (by show 8 ≤ j; omega)]
end Go.Proofs.Ytjgijifankaglaa
