/- QuotaPlays, the law's own loop. -/
import Derived.Test.YthhcaaellhdkiaaQK
namespace Go.Proofs.Ythhcaaellhdkiaa
open Go Go.RowKit Go.Proofs.Ythhcaaellhdkiaa.SX
set_option linter.unusedVariables false

theorem Pq.make {w0 w1 w2 w : World} {q b : Nat} (h1 : Bk w1 q b []) (hq : w0.heap.size ≤ q) (hb : w0.heap.size ≤ b) (b1 : Below w1.heap.size w1 w2) (h2 : Rf w2 w1.heap.size ⟨none, 0, 0⟩ [] (fun k => k = w1.heap.size)) (b2 : Below w2.heap.size w2 w) :
    Pq w ⟨q, b, w1.heap.size⟩ [] (fun k => w0.heap.size ≤ k ∧ k < w2.heap.size) := by
  have hlt := h1.lt
  have s1 := b1.size
  have s2 := b2.size
  have h2l := h2.lt _ rfl
  have s01 : w0.heap.size ≤ w1.heap.size := by omega
  exact ⟨h1.keep (S := fun _ => False) (Gr.below (b1.trans (b2.mono b1.size))) (fun h => h) (fun h => h), ⟨_, _, h2.below b2, fun k hk => by have : k = w1.heap.size := hk; omega, fun e => by have : q = w1.heap.size := e; omega, fun e => by have : b = w1.heap.size := e; omega⟩, inv_nil, ⟨hq, by show q < _; omega⟩, ⟨hb, by show b < _; omega⟩, fun k hk => by omega⟩
theorem F11_spec {w : World} {script : Sl} {ops : List QOp} (hs : RdR QOp.enc 11 w script ops) (ho : ∀ x ∈ ops, x.w ≤ 9223372036854775807 ∧ x.a.wi ≤ 9223372036854775807) : F11 script (fun r w1 => r = true ∧ Below w.heap.size w w1) w := by
  unfold F11
  have hsn := hs.1
  refine (C27 w).mono ?_
  rintro _ w3 ⟨_, rfl, rfl, b3⟩
  refine ⟨_, rfl, (C28 w3).mono ?_⟩
  rintro _ w5 ⟨_, rfl, q1, p1, rfl, h5, hq1, hp1, b5⟩
  refine ⟨_, rfl, (C50 w5).mono ?_⟩
  rintro _ w7 ⟨_, rfl, rfl, h7, b7⟩
  refine ⟨_, rfl, (C28 w7).mono ?_⟩
  rintro _ w9 ⟨_, rfl, q2, p2, rfl, h9, hq2, hp2, b9⟩
  refine ⟨_, rfl, (C50 w9).mono ?_⟩
  rintro _ w11 ⟨_, rfl, rfl, h11, b11⟩
  refine ⟨_, rfl, ?_⟩
  intro w12 hw12
  have r12 : w12.heap[w11.heap.size]? = some (.cells #[.pointer (some ⟨q1, 0, none⟩), .pointer (some ⟨w5.heap.size, 0, none⟩), .pointer (some ⟨q2, 0, none⟩), .pointer (some ⟨w9.heap.size, 0, none⟩)] 98 (0, 0)) := by rw [hw12]; exact heap_alloc_new w11 _
  have b12 : Below w11.heap.size w11 w12 := by rw [hw12]; exact (Below.refl _ _).alloc (Nat.le_refl _) _
  clear hw12
  have s3 := b3.size
  have s5 := b5.size
  have s7 := b7.size
  have s9 := b9.size
  have s11 := b11.size
  have P1 := Pq.make h5 hq1 hp1 b7 h7 (b9.trans ((b11.trans (b12.mono b11.size)).mono b9.size))
  have P2 := Pq.make h9 hq2 hp2 b11 h11 b12
  have Bel : Below w.heap.size w w12 := b3.trans ((b5.trans ((b7.trans ((b9.trans ((b11.trans (b12.mono b11.size)).mono b9.size)).mono b7.size)).mono b5.size)).mono b3.size)
  have T : Q2 w w11.heap.size #[.pointer (some ⟨q1, 0, none⟩), .pointer (some ⟨w5.heap.size, 0, none⟩), .pointer (some ⟨q2, 0, none⟩), .pointer (some ⟨w9.heap.size, 0, none⟩)] ⟨q1, p1, w5.heap.size⟩ ⟨q2, p2, w9.heap.size⟩ 0 w12 := by
    refine ⟨_, _, _, _, ⟨P1, P2, Nat.le_refl _, Nat.le_refl _, fun k hk hk' => by omega, fun hk => by omega, fun hk => by omega, fun k hk => by omega, fun k hk => by omega, r12, Bel⟩⟩
  have cc : ∀ (wq : World) (n : Nat), Q2 w w11.heap.size #[.pointer (some ⟨q1, 0, none⟩), .pointer (some ⟨w5.heap.size, 0, none⟩), .pointer (some ⟨q2, 0, none⟩), .pointer (some ⟨w9.heap.size, 0, none⟩)] ⟨q1, p1, w5.heap.size⟩ ⟨q2, p2, w9.heap.size⟩ n wq →
      ∀ j, wq.cell? ((⟨w11.heap.size, 0, none⟩ : Addr).add j) = (#[.pointer (some ⟨q1, 0, none⟩), .pointer (some ⟨w5.heap.size, 0, none⟩), .pointer (some ⟨q2, 0, none⟩), .pointer (some ⟨w9.heap.size, 0, none⟩)] : Array Value)[j]? := by
    intro wq n ⟨m, m', f, f', c⟩ j
    rw [add_lit, row_get c.row]
  refine ⟨(fun h => nomatch h), fun _ => ⟨by omega, by omega, _, rfl, _, cc w12 0 T 0, (fun h => nomatch h), fun _ => ⟨by omega, by omega, _, rfl, _, cc w12 0 T 2, (fun h => nomatch h), fun _ => ?_⟩⟩⟩
  generalize hgB : w11.heap.size = gB at T cc ⊢
  generalize hcs : (#[.pointer (some ⟨q1, 0, none⟩), .pointer (some ⟨w5.heap.size, 0, none⟩), .pointer (some ⟨q2, 0, none⟩), .pointer (some ⟨w9.heap.size, 0, none⟩)] : Array Value) = cs at T cc
  clear Bel P1 P2 r12 b12 h11 h9 h7 h5 b11 b9 b7 b5
  refine ⟨fun i wr => ∃ j : Nat, i = (j : Int) ∧ j ≤ 2000 ∧ Q2 w gB cs ⟨q1, p1, w5.heap.size⟩ ⟨q2, p2, w9.heap.size⟩ j wr, fun i _ => (2000 - i).toNat, ⟨0, rfl, by omega, T⟩, ?_⟩
  rintro _ w18 ⟨j, rfl, hj, T⟩
  have bel : ∀ {wq : World} {n : Nat}, Q2 w gB cs ⟨q1, p1, w5.heap.size⟩ ⟨q2, p2, w9.heap.size⟩ n wq → Below w.heap.size w wq := fun ⟨_, _, _, _, c⟩ => c.bel
  unfold F11_l1
  rw [hgB]
  refine ⟨fun hlt => ⟨fun hth => ?_, fun _ => ⟨rfl, bel T⟩⟩, fun _ => ⟨rfl, bel T⟩⟩
  have hjl : j < ops.length := by omega
  obtain ⟨a, ha, hc⟩ := (hs.below (bel T)).at j hjl
  have hx := ho ops[j] (List.getElem_mem hjl)
  generalize ops[j] = x at hc hx
  refine ⟨by omega, by omega, a, ha, x.kd, x.on, x.tn, x.w, x.n, x.m, x.a.ms, x.a.mp, x.a.sr, x.a.wr, x.a.wi, hc, ?_⟩
  intro w31 hw31
  have r31 : w31.heap[w18.heap.size]? = some (.cells #[.int .i64 0, .int .i64 0, .string ByteArray.empty, .int .i64 0, .int .i64 0, .int .i64 0, .int .i64 0, .int .i64 0, .int .i64 0, .int .i64 0, .int .i64 0] 89 (0, 0)) := by rw [hw31]; exact heap_alloc_new w18 _
  have b31 : Below w18.heap.size w18 w31 := by rw [hw31]; exact (Below.refl _ _).alloc (Nat.le_refl _) _
  clear hw31
  refine ⟨rowN_has r31 11 0 (by simp), ?_⟩
  intro w32 hw32
  obtain ⟨r32, g32⟩ : Row11 w32 w18.heap.size x ∧ Gr (fun k => k = w18.heap.size) w31 w32 := by rw [hw32]; exact rowN_full (vs := x.enc) r31 rfl
  clear hw32
  have B32 := b31.trans (g32.toBelow b31.size (fun k hk => by omega))
  refine ⟨_, r32.at 1, ?_⟩
  rintro _ rfl
  have B34 : Below w18.heap.size w18 w32.drew := below_drew B32
  have T34 := T.below B34
  have r34 : Row11 w32.drew w18.heap.size x := r32.below (below_drew (Below.refl _ _))
  have all34 : CellsAt w32.drew (⟨w18.heap.size, 0, none⟩ : Addr) 0 x.enc := cellsAt_get.2 fun i u hu => by rw [Nat.zero_add, r34.at i]; exact hu
  have c2 : ∀ {wq : World} {n : Nat}, Q2 w gB cs ⟨q1, p1, w5.heap.size⟩ ⟨q2, p2, w9.heap.size⟩ n wq → ∀ i : Nat, i < 2 → CellsAt wq ((⟨gB, 0, none⟩ : Addr).add (i * 2)) 0 [.pointer (some ⟨if i = 0 then q1 else q2, 0, none⟩), .pointer (some ⟨if i = 0 then w5.heap.size else w9.heap.size, 0, none⟩)] := by
    intro wq n hT i hi
    have h0 := cc wq n hT 0
    have h1 := cc wq n hT 1
    have h2 := cc wq n hT 2
    have h3 := cc wq n hT 3
    rw [← hcs] at h0 h1 h2 h3
    rw [cellsAt_shift]
    rcases (by omega : i = 0 ∨ i = 1) with rfl | rfl
    · exact ⟨h0, h1, trivial⟩
    · exact ⟨h2, h3, trivial⟩
  have after : ∀ w53, Q2 w gB cs ⟨q1, p1, w5.heap.size⟩ ⟨q2, p2, w9.heap.size⟩ (j + 1) w53 → Row11 w53 w18.heap.size x →
      ∀ (w_54 : World), w_54 = w53.drew →
      (0 : Int) ≤ 0 ∧ (0 : Int) < (2 : Int) ∧ ∃ (a_55 : Addr), some ⟨gB, 0, none⟩ = some a_55 ∧
      ∃ (t65_56 : Option Addr), ∃ (t65_57 : Option Addr), CellsAt w_54 (a_55.add (Int.toNat 0 * 2)) 0 [.pointer t65_56, .pointer t65_57] ∧
      ∃ (t67_58 : ByteArray), w_54.cell? ((⟨w18.heap.size, 0, none⟩ : Addr).add 2) = some (.string t67_58) ∧
      ∃ (t69_59 : Int), w_54.cell? ((⟨w18.heap.size, 0, none⟩ : Addr).add 3) = some (.int .i64 t69_59) ∧
      Calls Try.prog 52 #[.agg #[.pointer t65_56, .pointer t65_57], .string t67_58, .int .i64 t69_59] w_54 fun e w_61 => ∃ (t70_60 : Bool), e = .returned (.bool t70_60 : Value) ∧
      ∀ (w_62 : World), w_62 = w_61.drew →
      (0 : Int) ≤ 1 ∧ (1 : Int) < (2 : Int) ∧ ∃ (a_63 : Addr), some ⟨gB, 0, none⟩ = some a_63 ∧
      ∃ (t73_64 : Option Addr), ∃ (t73_65 : Option Addr), CellsAt w_62 (a_63.add (Int.toNat 1 * 2)) 0 [.pointer t73_64, .pointer t73_65] ∧
      ∃ (t75_66 : ByteArray), w_62.cell? ((⟨w18.heap.size, 0, none⟩ : Addr).add 2) = some (.string t75_66) ∧
      ∃ (t77_67 : Int), w_62.cell? ((⟨w18.heap.size, 0, none⟩ : Addr).add 3) = some (.int .i64 t77_67) ∧
      Calls Try.prog 52 #[.agg #[.pointer t73_64, .pointer t73_65], .string t75_66, .int .i64 t77_67] w_62 fun e w_69 => ∃ (t78_68 : Bool), e = .returned (.bool t78_68 : Value) ∧
      ((true = false → false = true ∧ Below w.heap.size w w_69) ∧ (true = true →
        ((t70_60 = false → false = true ∧ Below w.heap.size w w_69) ∧ (t70_60 = true →
          ((t78_68 = false → false = true ∧ Below w.heap.size w w_69) ∧ (t78_68 = true →
            ((∃ j' : Nat, IntKind.i64.wrap ((j : Int) + 1) = (j' : Int) ∧ j' ≤ 2000 ∧ Q2 w gB cs ⟨q1, p1, w5.heap.size⟩ ⟨q2, p2, w9.heap.size⟩ j' w_69) ∧ (2000 - IntKind.i64.wrap ((j : Int) + 1)).toNat < (2000 - (j : Int)).toNat))))))) := by
    intro w53 T53 r53
    rintro _ rfl
    have T54 := T53.below (below_drew (Below.refl _ w53))
    have r54 : Row11 w53.drew w18.heap.size x := r53.below (below_drew (Below.refl _ _))
    obtain ⟨m, m', f, f', c54⟩ := T54
    have hl1 := c54.l1
    have hl2 := c54.l2
    refine ⟨by omega, by omega, _, rfl, some ⟨q1, 0, none⟩, some ⟨w5.heap.size, 0, none⟩, c2 ⟨m, m', f, f', c54⟩ 0 (by omega), _, r54.at 2, _, r54.at 3, (C52 c54.p x.tn x.w (by omega)).mono ?_⟩
    rintro _ w61 ⟨_, rfl, rfl, b61⟩
    refine ⟨_, rfl, ?_⟩
    rintro _ rfl
    have b62 : Below w53.drew.heap.size w53.drew w61.drew := below_drew b61
    have c62 := c54.below b62
    have r62 := r54.below b62
    refine ⟨by omega, by omega, _, rfl, some ⟨q2, 0, none⟩, some ⟨w9.heap.size, 0, none⟩, c2 ⟨m, m', f, f', c62⟩ 1 (by omega), _, r62.at 2, _, r62.at 3, (C52 c62.o x.tn x.w (by omega)).mono ?_⟩
    rintro _ w69 ⟨_, rfl, rfl, b69⟩
    have c69 := c62.below b69
    rw [w_i64 (by omega) (by omega)]
    exact ⟨_, rfl, (fun h => nomatch h), fun _ => ⟨(fun h => nomatch h), fun _ => ⟨(fun h => nomatch h), fun _ => ⟨⟨j + 1, by omega, by omega, m, m', f, f', c69⟩, by omega⟩⟩⟩⟩
  rcases and1_i64 x.on with h1 | h1
  · rw [h1]
    refine ⟨by omega, by omega, _, rfl, some ⟨q1, 0, none⟩, some ⟨w5.heap.size, 0, none⟩, c2 T34 0 (by omega), x.kd, x.on, x.tn, x.w, x.n, x.m, x.a.ms, x.a.mp, x.a.sr, x.a.wr, x.a.wi, all34, by decide, by decide, _, rfl, some ⟨q2, 0, none⟩, some ⟨w9.heap.size, 0, none⟩, c2 T34 1 (by omega), ?_⟩
    refine (C51k T B34 r34 (by omega) hx).mono ?_
    rintro _ w53 ⟨_, rfl, rfl, T53, r53⟩
    exact ⟨_, rfl, after w53 T53 r53⟩
  · rw [h1]
    refine ⟨by omega, by omega, _, rfl, some ⟨q2, 0, none⟩, some ⟨w9.heap.size, 0, none⟩, c2 T34 1 (by omega), x.kd, x.on, x.tn, x.w, x.n, x.m, x.a.ms, x.a.mp, x.a.sr, x.a.wr, x.a.wi, all34, by decide, by decide, _, rfl, some ⟨q1, 0, none⟩, some ⟨w5.heap.size, 0, none⟩, c2 T34 0 (by omega), ?_⟩
    refine (C51k T.swap B34 r34 (by omega) hx).mono ?_
    rintro _ w53 ⟨_, rfl, rfl, T53, r53⟩
    exact ⟨_, rfl, after w53 T53.swap r53⟩
end Go.Proofs.Ythhcaaellhdkiaa
