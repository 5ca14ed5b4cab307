/- The laws of package num: what 'shown' returns, and NumBack. -/
import Derived.Test.YthhcaaellhdkiaaNV
import Derived.Test.YthhcaaellhdkiaaGNb
import Derived.Test.YthhcaaellhdkiaaGN5
import Derived.Lib.SlBytesConst
namespace Go.Proofs.Ythhcaaellhdkiaa
open Go Go.RowKit Go.Proofs.Ythhcaaellhdkiaa.SX
set_option linter.unusedVariables false

theorem rd_litf (w : World) (xs : List Int) (hm : xs.length ≤ maxLen) (f : Nat × Nat) : Rd B8 (w.alloc (.cells (xs.map B8).toArray 5 f)) ⟨some ⟨w.heap.size, 0, none⟩, xs.length, xs.length⟩ xs := by
  refine ⟨rfl, Nat.le_refl _, hm, fun _ => ⟨_, rfl, fun j hj => ?_⟩⟩
  have := cell_of_row (w.alloc (.cells (xs.map B8).toArray 5 f)) w.heap.size j (xs.map B8).toArray 5 f (heap_alloc_new w _)
  have ha : (⟨w.heap.size, 0, none⟩ : Addr).add j = ⟨w.heap.size, j, none⟩ := by unfold Addr.add; split <;> simp_all
  rw [ha, this]
  simp [hj]
theorem rd_lit (w : World) (xs : List Int) (hm : xs.length ≤ maxLen) : Rd B8 (w.alloc (.cells (xs.map B8).toArray 5)) ⟨some ⟨w.heap.size, 0, none⟩, xs.length, xs.length⟩ xs := rd_litf w xs hm _
theorem rd_row {w : World} {a : Option Addr} {len cap : Nat} {zs : List Int} (h : (a = none ∧ len = 0 ∧ cap = 0 ∧ zs = []) ∨
  ∃ x, a = some x ∧ len ≤ cap ∧ cap ≤ maxLen ∧ zs.length = cap ∧ (∀ i, i < zs.length → w.cell? (x.add i) = some (.int .u8 (zs.getD i 0))) ∧ ∀ n ∈ zs, (Lit.int .u8 n).wf = true) : ∃ xs : List Int, Rd B8 w ⟨a, len, cap⟩ xs ∧ bys xs := by
  rcases h with ⟨rfl, rfl, rfl, rfl⟩ | ⟨x, rfl, hl, hm, hz, hc, hw⟩
  · exact ⟨[], Rd.nil, fun x hx => by simp at hx⟩
  · refine ⟨zs.take len, ⟨by simp; omega, hl, hm, fun _ => ⟨x, rfl, fun j hj => ?_⟩⟩, fun n hn => ?_⟩
    · simp at hj
      rw [hc j (by omega)]
      simp [List.getD, List.getElem?_eq_getElem (show j < zs.length by omega)]
    · have := hw n (List.mem_of_mem_take hn)
      simp [Lit.wf, IntKind.min, IntKind.max, IntKind.signed, IntKind.bits] at this
      omega
theorem Own.at {w w' : World} {s : Sl} {xs : List Int} {k : Nat} (h : Own B8 5 k w s xs) (hb : Below w.heap.size w w') : Rd B8 w' s xs := h.rd.below hb
theorem Own.rd' {w w' w'' : World} {s : Sl} {xs : List Int} {k : Nat} (h : Own B8 5 k w s xs) (hb : Below k w' w) (hb2 : Below w.heap.size w w'') : Rd B8 w'' s xs := h.rd.below hb2

theorem uv300 : uv 300 = [172, 2] := by rw [uv_ge (by omega), uv_lt (by omega)]; rfl
theorem uv127 : uv (zig (-64)).toNat = [127] := by rw [show (zig (-64)).toNat = 127 from rfl, uv_lt (by omega)]; rfl
theorem uv2 : uv 2 = [2] := by rw [uv_lt (by omega)]; rfl
theorem conv2222 (w : World) (C : Array Value) (n c : Nat) : (convert 22 22 (.slice (some ⟨w.heap.size, 0, none⟩) n c)).run Try.prog (w.alloc (.cells C 5)) = .ok (.slice (some ⟨w.heap.size, 0, none⟩) n c) (w.alloc (.cells C 5 (C.size, C.size + 1))) := Lib.run_convert_bytes_const (P := Try.prog) w 22 5 C n c Try.underlying22 Try.underlying5

theorem C12 (w : World) : Calls Try.prog 12 #[] w (fun e w1 => ∃ (r0 : Bool), e = .returned (.bool r0 : Value) ∧ (r0 = true ∧ Below w.heap.size w w1)) := by
  refine F12_sound (fun r0 w1 => r0 = true ∧ Below w.heap.size w w1) w ?_
  unfold F12
  rintro _ rfl
  have b1 : Below w.heap.size w (w.alloc (.cells #[.int .u8 1, .int .u8 2] 5)) := (Below.refl _ _).alloc (Nat.le_refl _) _
  refine C17 (b := ⟨some ⟨w.heap.size, 0, none⟩, 2, 2⟩) (n := 300) rfl (rd_lit w [1, 2] (by simp [maxLen])) (by simp) (by omega) ?_
  intro s1 w3 o1 b3
  have B3 := b1.trans (b3.mono b1.size)
  rintro _ rfl
  refine (C24 (b := ⟨some ⟨w3.heap.size, 0, none⟩, 3, 3⟩) (rd_lit w3 [128, 1, 7] (by simp [maxLen])) (by intro x hx; simp at hx; omega)).mono ?_
  rintro _ w7 ⟨r0, r1, rfl, rfl, rfl, rfl⟩
  refine ⟨_, _, rfl, ?_⟩
  rintro _ rfl
  refine (C24 (b := ⟨some ⟨_, 0, none⟩, 2, 2⟩) (rd_lit _ [128, 0] (by simp [maxLen])) (by intro x hx; simp at hx; omega)).mono ?_
  rintro _ w7 ⟨r0, r1, rfl, rfl, rfl, rfl⟩
  refine ⟨_, _, rfl, ?_⟩
  have b4 : Below w3.heap.size w3 ((w3.alloc (.cells #[.int .u8 128, .int .u8 1, .int .u8 7] 5)).alloc (.cells #[.int .u8 128, .int .u8 0] 5)) :=
    ((Below.refl _ _).alloc (Nat.le_refl _) _).alloc (by simp) _
  refine C18 (b := ⟨none, 0, 0⟩) (n := -64) Rd.nil (by simp) (by omega) (by omega) ?_
  intro s2 w13 o2 b13
  have B13 := b4.trans (b13.mono b4.size)
  rintro _ rfl
  refine (C25 (b := ⟨some ⟨w13.heap.size, 0, none⟩, 2, 2⟩) (rd_lit w13 [128, 1] (by simp [maxLen])) (by intro x hx; simp at hx; omega)).mono ?_
  rintro _ w17 ⟨r0, r1, rfl, rfl, rfl, rfl⟩
  refine ⟨_, _, rfl, ?_⟩
  rintro _ rfl
  refine ⟨⟨some ⟨(w13.alloc (.cells #[.int .u8 128, .int .u8 1] 5)).heap.size, 0, none⟩, 2, 2⟩, (w13.alloc (.cells #[.int .u8 128, .int .u8 1] 5)).alloc (.cells #[.int .u8 97, .int .u8 98] 5 (2, 3)), conv2222 (w13.alloc (.cells #[.int .u8 128, .int .u8 1] 5)) _ _ _, ?_⟩
  have b5 : Below w13.heap.size w13 ((w13.alloc (.cells #[.int .u8 128, .int .u8 1] 5)).alloc (.cells #[.int .u8 97, .int .u8 98] 5 (2, 3))) :=
    ((Below.refl _ _).alloc (Nat.le_refl _) _).alloc (by simp) _
  refine C19 (b := ⟨none, 0, 0⟩) (s := ⟨some ⟨_, 0, none⟩, 2, 2⟩) Rd.nil (rd_litf (w13.alloc (.cells #[.int .u8 128, .int .u8 1] 5)) [97, 98] (by simp [maxLen]) (2, 3)) (by simp) ?_
  intro s3 w22 o3 b22
  have B22 := b5.trans (b22.mono b5.size)
  have y3 : bys ([] ++ uv [(97 : Int), 98].length ++ [97, 98]) := bys_append (bys_append (fun x hx => by simp at hx) (uv_bys _)) (by intro x hx; simp at hx; omega)
  have e3 : ([] ++ uv [(97 : Int), 98].length ++ [97, 98] : List Int) = [2, 97, 98] := by
    show [] ++ uv 2 ++ [97, 98] = _
    rw [uv2]; rfl
  rw [e3] at o3 y3
  refine (C26 o3.rd y3 (by simp) (by omega)).mono ?_
  rintro _ w25 ⟨s4, r1, rfl, o4, rfl, b25⟩
  refine ⟨_, _, rfl, ?_⟩
  refine (C26 (o3.rd.below b25) y3 (by simp) (by omega)).mono ?_
  rintro _ w28 ⟨s5, r2, rfl, o5, rfl, b28⟩
  refine ⟨_, _, rfl, ?_⟩
  have B28 := b25.trans (b28.mono b25.size)
  have C28 := B22.trans (B28.mono B22.size)
  have D28 := B13.trans (C28.mono B13.size)
  refine ⟨_, rd_str (o1.rd.below D28), ?_⟩
  have e1 : strOfNums ([1, 2] ++ uv 300) = ByteArray.mk #[1, 2, 172, 2] := by rw [uv300]; rfl
  rw [e1]
  refine ⟨fun _ => ⟨fun _ => ⟨fun _ => ⟨fun _ => ⟨_, rd_str (o2.rd.below C28), ?_⟩, fun h => absurd (by decide) h⟩, fun h => absurd (by decide) h⟩, fun h => absurd (by decide) h⟩, fun h => absurd rfl h⟩
  have e2 : strOfNums ([] ++ uv (zig (-64)).toNat) = ByteArray.mk #[127] := by rw [uv127]; rfl
  rw [e2]
  refine ⟨fun _ => ⟨fun _ => ⟨fun _ => ⟨_, rd_str (o3.rd.below B28), ?_⟩, fun h => absurd (by decide) h⟩, fun h => absurd (by decide) h⟩, fun h => absurd rfl h⟩
  have e4 : strOfNums [2, 97, 98] = ByteArray.mk #[2, 97, 98] := rfl
  rw [e4]
  refine ⟨fun _ => ⟨_, rd_str (o4.rd.below b28), ?_⟩, fun h => absurd rfl h⟩
  have e5 : strOfNums (byt [2, 97, 98] 2).1 = ByteArray.mk #[97, 98] := by rw [show (byt [2, 97, 98] 2).1 = [97, 98] by decide]; rfl
  rw [e5]
  refine ⟨fun _ => ⟨fun _ => ?_, fun h => absurd (by decide) h⟩, fun h => absurd rfl h⟩
  unfold F12_j1
  exact ⟨by decide, B3.trans (D28.mono B3.size)⟩

/-- a row of slices, read back later -/
theorem row_cell (w : World) (cs : Array Value) (e : TypeId) (j : Nat) {w' : World} (hj : j < cs.size) (hb : Below (w.alloc (.cells cs e)).heap.size (w.alloc (.cells cs e)) w') : w'.cell? ((⟨w.heap.size, 0, none⟩ : Addr).add j) = some cs[j] := by
  have h1 := cell_of_row (w.alloc (.cells cs e)) w.heap.size j cs e (0, 0) (heap_alloc_new w _)
  have ha : (⟨w.heap.size, 0, none⟩ : Addr).add j = ⟨w.heap.size, j, none⟩ := by unfold Addr.add; split <;> simp_all
  rw [ha, hb.cell (by show w.heap.size < (w.alloc (.cells cs e)).heap.size; simp), h1]
  simp [hj]

theorem F5_spec {n m : Int} {s b : Sl} {ys xs : List Int} {w : World} (hn0 : 0 ≤ n) (hn1 : n < 18446744073709551616) (hm1 : -9223372036854775808 ≤ m) (hm2 : m ≤ 9223372036854775807)
    (hs : Rd B8 w s ys) (hys : bys ys) (hb : Rd B8 w b xs) (hxs : bys xs) : F5 n m s b (fun r w1 => r = true ∧ Below w.heap.size w w1) w := by
  unfold F5
  refine (C12 w).mono ?_
  rintro _ w6 ⟨_, rfl, rfl, b6⟩
  have hsl := hs.len
  have hbl := hb.len
  refine ⟨true, rfl, fun h => (nomatch h), fun _ => ⟨fun _ => ⟨rfl, b6⟩, fun hbm => ⟨fun _ => ⟨rfl, b6⟩, fun hsm => ?_⟩⟩⟩
  have hLn : n.toNat < 18446744073709551616 := by omega
  have hz := zig_range hm1 hm2
  refine C17 (b := ⟨none, 0, 0⟩) (n := n.toNat) (by omega) Rd.nil (by simp) hLn ?_
  intro t0 w8 o0 b8
  refine C18 (b := ⟨none, 0, 0⟩) Rd.nil (by simp) hm1 hm2 ?_
  intro t1 w10 o1 b10
  have B10 := b6.trans ((b8.trans (b10.mono b8.size)).mono b6.size)
  refine C19 (b := ⟨none, 0, 0⟩) Rd.nil (hs.below B10) (by simp; omega) ?_
  intro t2 w12 o2 b12
  have B12 := B10.trans (b12.mono B10.size)
  rintro _ rfl
  have a13 : Below w12.heap.size w12 (w12.alloc (.cells #[.slice t0.a t0.n t0.c, .slice t1.a t1.n t1.c, .slice t2.a t2.n t2.c] 22)) := (Below.refl _ _).alloc (Nat.le_refl _) _
  have B13 := B12.trans (a13.mono B12.size)
  have R0 := (o0.rd.below (b10.trans (b12.mono b10.size))).below a13
  have R1 := (o1.rd.below b12).below a13
  have R2 := o2.rd.below a13
  have hcell : ∀ j (hj : j < 3) w', Below (w12.alloc (.cells #[.slice t0.a t0.n t0.c, .slice t1.a t1.n t1.c, .slice t2.a t2.n t2.c] 22)).heap.size (w12.alloc (.cells #[.slice t0.a t0.n t0.c, .slice t1.a t1.n t1.c, .slice t2.a t2.n t2.c] 22)) w' → w'.cell? ((⟨w12.heap.size, 0, none⟩ : Addr).add j) = some (#[.slice t0.a t0.n t0.c, .slice t1.a t1.n t1.c, .slice t2.a t2.n t2.c] : Array Value)[j] := fun j hj w' hw => row_cell w12 #[.slice t0.a t0.n t0.c, .slice t1.a t1.n t1.c, .slice t2.a t2.n t2.c] 22 j hj hw
  clear a13 o0 o1 o2 b8 b10 b12
  generalize (w12.alloc (.cells #[.slice t0.a t0.n t0.c, .slice t1.a t1.n t1.c, .slice t2.a t2.n t2.c] 22)) = w13 at *
  simp only [List.nil_append] at R0 R1 R2
  have hl0 := uv_len10 hLn
  have hl1 := uv_len10 hz.2
  have hl2 := uv_len10 (n := ys.length) (by omega)
  -- n and what follows
  refine C17 (b := ⟨none, 0, 0⟩) (n := n.toNat) (by omega) Rd.nil (by simp) hLn ?_
  intro u0 w15 p0 c15
  obtain ⟨v0, w17, h1, h2⟩ := ap_many (ty := 22) (w := w15) ty22 b8one p0 (hb.below (B13.trans (c15.mono B13.size))) c15.size (by simp; omega)
  refine ⟨v0, w17, h1, ?_⟩
  have C17' := h2.below p0 c15.size c15
  have k0 := h2.own
  simp only [List.nil_append] at k0
  refine (C24 k0.rd (bys_append (uv_bys _) hxs)).mono ?_
  rintro _ w20 ⟨x0, y0, rfl, rfl, rfl, rfl⟩
  rw [uint_uv hLn]
  refine ⟨_, _, rfl, ?_⟩
  clear h1 h2 k0 p0 c15
  refine C18 (b := ⟨none, 0, 0⟩) Rd.nil (by simp) hm1 hm2 ?_
  intro u1 w22 p1 c22
  have c22' := C17'.trans (c22.mono C17'.size)
  obtain ⟨v1, w24, h1, h2⟩ := ap_many (ty := 22) (w := w22) ty22 b8one p1 (hb.below (B13.trans (c22'.mono B13.size))) c22.size (by simp; omega)
  refine ⟨v1, w24, h1, ?_⟩
  have C24' := C17'.trans ((h2.below p1 c22.size c22).mono C17'.size)
  have k1 := h2.own
  simp only [List.nil_append] at k1
  refine (C25 k1.rd (bys_append (uv_bys _) hxs)).mono ?_
  rintro _ w27 ⟨x1, y1, rfl, rfl, rfl, rfl⟩
  rw [sint_zig hm1 hm2]
  refine ⟨_, _, rfl, ?_⟩
  clear h1 h2 k1 p1 c22 c22'
  refine C19 (b := ⟨none, 0, 0⟩) Rd.nil (hs.below (B13.trans (C24'.mono B13.size))) (by simp; omega) ?_
  intro u2 w29 p2 c29
  have c29' := C24'.trans (c29.mono C24'.size)
  obtain ⟨v2, w31, h1, h2⟩ := ap_many (ty := 22) (w := w29) ty22 b8one p2 (hb.below (B13.trans (c29'.mono B13.size))) c29.size (by simp; omega)
  refine ⟨v2, w31, h1, ?_⟩
  have C31' := C24'.trans ((h2.below p2 c29.size c29).mono C24'.size)
  have k2 := h2.own
  simp only [List.nil_append] at k2
  refine (C26 k2.rd (bys_append (bys_append (uv_bys _) hys) hxs) (by simp; omega) (by omega)).mono ?_
  rintro _ w34 ⟨x2, y2, rfl, k3, rfl, c34⟩
  rw [byt_frame (by omega) (by omega)] at k3 ⊢
  refine ⟨_, _, rfl, ?_⟩
  have C34' := C31'.trans (c34.mono C31'.size)
  clear h1 h2 k2 p2 c29 c29'
  refine ⟨fun h => (nomatch h), fun _ => ⟨fun h => absurd (by simp only; omega) h, fun _ => ⟨fun h => absurd rfl h, fun _ => ?_⟩⟩⟩
  refine ⟨_, rd_str k3.rd, _, rd_str (hs.below (B13.trans (C34'.mono B13.size))), fun h => absurd rfl h, fun _ => ?_⟩
  refine ⟨by omega, by omega, _, rfl, t0, hcell 0 (by omega) _ C34', fun h => absurd (by have := R0.len; simp only; omega) h, fun _ => ?_⟩
  refine ⟨by omega, by omega, _, rfl, t1, hcell 1 (by omega) _ C34', fun h => absurd (by have := R1.len; simp only; omega) h, fun _ => ?_⟩
  refine ⟨by omega, by omega, _, rfl, t2, hcell 2 (by omega) _ C34', fun h => absurd (by have := R2.len; simp only; omega) h, fun _ => ?_⟩
  refine ⟨by omega, by omega, _, rfl, t2, hcell 2 (by omega) _ C34', ?_⟩
  rw [w_i64 (n := (s.n : Int) - 1) (by omega) (by omega)]
  refine (C26 (R2.below C34') (bys_append (uv_bys _) hys) (by simp; omega) (by omega)).mono ?_
  rintro _ w47 ⟨x4, y4, rfl, k4, rfl, c47⟩
  have hov : (byt (uv ys.length ++ ys) ((s.n : Int) - 1)).2 = 0 := by
    rw [← hsl]
    simpa using byt_over (ys := ys) (rest := []) (by omega)
  rw [hov]
  refine ⟨_, _, rfl, fun h => absurd rfl h, fun _ => ?_⟩
  have C47' := C34'.trans (c47.mono C34'.size)
  clear k3 k4 hov
  -- every prefix reads as nothing
  have hpick : ∀ f : Nat, f < 3 → ∃ sf : Sl, ∃ zs, (∀ w', Below w13.heap.size w13 w' → w'.cell? ((⟨w12.heap.size, 0, none⟩ : Addr).add f) = some (.slice sf.a sf.n sf.c)) ∧ Rd B8 w13 sf zs ∧ bys zs ∧ zs.length ≤ 140737488355328 ∧
      ∀ c, c < zs.length → (f < 2 → (uint (zs.take c)).2 = 0 ∧ (sint (zs.take c)).2 = 0) ∧ (f = 2 → (byt (zs.take c) (s.n : Int)).2 = 0) := by
    intro f hf
    have : f = 0 ∨ f = 1 ∨ f = 2 := by omega
    rcases this with rfl | rfl | rfl
    · exact ⟨t0, _, fun w' hw => hcell 0 hf w' hw, R0, uv_bys _, by omega, fun c hc => ⟨fun _ => ⟨by rw [uint_cut hc], by rw [sint_cut hc]⟩, fun h => by omega⟩⟩
    · exact ⟨t1, _, fun w' hw => hcell 1 hf w' hw, R1, uv_bys _, by omega, fun c hc => ⟨fun _ => ⟨by rw [uint_cut hc], by rw [sint_cut hc]⟩, fun h => by omega⟩⟩
    · exact ⟨t2, _, fun w' hw => hcell 2 hf w' hw, R2, bys_append (uv_bys _) hys, by simp; omega, fun c hc => ⟨fun h => by omega, fun _ => byt_cut (by omega) hc⟩⟩
  refine ⟨fun f wr => ∃ k : Nat, f = (k : Int) ∧ k ≤ 3 ∧ Below w13.heap.size w13 wr, fun f _ => 3 - f.toNat, ⟨0, rfl, by omega, C47'⟩, ?_⟩
  rintro _ wr ⟨f, rfl, hf3, D⟩
  unfold F5_l1
  refine ⟨fun hlt => ?_, fun hge => ?_⟩
  · obtain ⟨sf, zs, hcf, Rf, hbf, hlf, hcut⟩ := hpick f (by omega)
    refine ⟨fun c wr => ∃ k : Nat, c = (k : Int) ∧ k ≤ zs.length ∧ Below w13.heap.size w13 wr, fun c _ => zs.length - c.toNat, ⟨0, rfl, by omega, D⟩, ?_⟩
    rintro _ wr2 ⟨c, rfl, hcl, E⟩
    unfold F5_l2
    have hnextf : ∀ w', Below w13.heap.size w13 w' → (∃ k : Nat, IntKind.i64.wrap ((f : Int) + 1) = (k : Int) ∧ k ≤ 3 ∧ Below w13.heap.size w13 w') ∧ 3 - (IntKind.i64.wrap ((f : Int) + 1)).toNat < 3 - ((f : Int)).toNat := by
      intro w' hw
      rw [w_i64 (by omega) (by omega)]
      exact ⟨⟨f + 1, by omega, by omega, hw⟩, by omega⟩
    have hlz := Rf.len
    refine ⟨by omega, by omega, _, rfl, sf, hcf _ E, fun hc1 => ⟨fun hc12 => ?_, fun _ => hnextf _ E⟩, fun _ => hnextf _ E⟩
    have hcz : c < zs.length := by omega
    obtain ⟨sc, hcut1, Rc⟩ := rd_hi Rf (c : Int) c rfl hcl
    have hnextc : ∀ w', Below w13.heap.size w13 w' → (∃ k : Nat, IntKind.i64.wrap ((c : Int) + 1) = (k : Int) ∧ k ≤ zs.length ∧ Below w13.heap.size w13 w') ∧ zs.length - (IntKind.i64.wrap ((c : Int) + 1)).toNat < zs.length - ((c : Int)).toNat := by
      intro w' hw
      rw [w_i64 (by omega) (by omega)]
      exact ⟨⟨c + 1, by omega, by omega, hw⟩, by omega⟩
    obtain ⟨hq1, hq2⟩ := hcut c hcz
    refine ⟨by omega, by omega, _, rfl, sf, hcf _ E, sc, hcut1 _, ?_⟩
    refine (C24 (Rc.below E) (bys_take hbf _)).mono ?_
    rintro _ w3 ⟨_, _, rfl, rfl, rfl, rfl⟩
    refine ⟨_, _, rfl, by omega, by omega, _, rfl, sf, hcf _ E, sc, hcut1 _, ?_⟩
    refine (C25 (Rc.below E) (bys_take hbf _)).mono ?_
    rintro _ w3 ⟨_, _, rfl, rfl, rfl, rfl⟩
    refine ⟨_, _, rfl, by omega, by omega, _, rfl, sf, hcf _ E, sc, hcut1 _, ?_⟩
    refine (C26 (Rc.below E) (bys_take hbf _) (by simp; omega) (by omega)).mono ?_
    rintro _ w4 ⟨_, _, rfl, _, rfl, e4⟩
    have E4 := E.trans (e4.mono E.size)
    refine ⟨_, _, rfl, fun hf2 => ⟨fun h => absurd (hq1 (by omega)).1 h, fun _ => ⟨fun h => absurd (hq1 (by omega)).2 h, fun _ => ⟨fun h => by omega, fun _ => hnextc _ E4⟩⟩⟩,
      fun hf2 => ⟨fun h2 => ⟨fun h => absurd (hq2 (by omega)) h, fun _ => hnextc _ E4⟩, fun _ => hnextc _ E4⟩⟩
  · -- whatever is read is what is written
    have Hr := hb.below (B13.trans (D.mono B13.size))
    have hu := uint_range hxs
    have hsi := sint_range hxs
    have hby := byt_range (most := (b.n : Int)) hxs
    refine (C24 Hr hxs).mono ?_
    rintro _ w3 ⟨_, _, rfl, rfl, rfl, rfl⟩
    refine ⟨_, _, rfl, ?_⟩
    refine (C25 Hr hxs).mono ?_
    rintro _ w3 ⟨_, _, rfl, rfl, rfl, rfl⟩
    refine ⟨_, _, rfl, ?_⟩
    refine (C26 Hr hxs (by omega) (by omega)).mono ?_
    rintro _ w4 ⟨sq, _, rfl, oq, rfl, e4⟩
    refine ⟨_, _, rfl, fun h => by omega, fun _ => ⟨fun h => by omega, fun _ => ⟨fun h => by omega, fun _ => ⟨fun h => by omega, fun _ => ⟨fun h => by omega, fun _ => ⟨fun h => by omega, fun _ => ?_⟩⟩⟩⟩⟩⟩
    rintro _ rfl
    have E4 : Below w3.heap.size w3 w4.drew := e4.drew
    have Oq : Own B8 5 w3.heap.size w4.drew sq (byt xs (b.n : Int)).1 := oq.below ((Below.refl _ _).drew)
    generalize w4.drew = w5 at *
    clear oq e4
    have Rb := Hr.below E4
    have F5' : Below w.heap.size w w5 := B13.trans ((D.trans (E4.mono D.size)).mono B13.size)
    -- the three checks
    have hfin : ∀ w', Below w5.heap.size w5 w' → F5_j3 (fun r w1 => r = true ∧ Below w.heap.size w w1) true w' := fun w' hw => ⟨rfl, F5'.trans (hw.mono F5'.size)⟩
    have hby2 : ∀ w', Below w5.heap.size w5 w' → ((byt xs (b.n : Int)).2 ≠ 0) → ∃ sl : Sl, (Instr.sliceAt 22 (.slice b.a b.n b.c : Value) none (some (.int .i64 (byt xs (b.n : Int)).2 : Value)) none).run Try.prog w' = .ok (.slice sl.a sl.n sl.c : Value) w' ∧
        ∃ str : ByteArray, (convert 22 9 (.slice sl.a sl.n sl.c : Value)).run Try.prog w' = .ok (.string str : Value) w' ∧
        Calls Try.prog 19 #[.slice none 0 0, .slice sq.a sq.n sq.c] w' fun e w2 => ∃ s3 : Sl, e = .returned (.slice s3.a s3.n s3.c : Value) ∧ (convert 22 9 (.slice sl.a sl.n sl.c : Value)).run Try.prog w2 = .ok (.string str : Value) w2 ∧ (Instr.sliceAt 22 (.slice b.a b.n b.c : Value) none (some (.int .i64 (byt xs (b.n : Int)).2 : Value)) none).run Try.prog w2 = .ok (.slice sl.a sl.n sl.c : Value) w2 ∧
        ∃ str2 : ByteArray, (convert 22 9 (.slice s3.a s3.n s3.c : Value)).run Try.prog w2 = .ok (.string str2 : Value) w2 ∧ F5_j3 (fun r w1 => r = true ∧ Below w.heap.size w w1) ((str2.toList == str.toList)) w2 := by
      intro w' hw hne
      obtain ⟨sl, hcut, hsl'⟩ := rd_hi Rb (byt xs (b.n : Int)).2 (byt xs (b.n : Int)).2.toNat (by omega) (by omega)
      refine ⟨sl, hcut _, _, rd_str (hsl'.below hw), ?_⟩
      refine C19 (b := ⟨none, 0, 0⟩) Rd.nil (Oq.rd.below hw) (by simp; omega) ?_
      intro s3 w2 o3 g2
      refine ⟨rd_str ((hsl'.below hw).below g2), hcut _, _, rd_str o3.rd, ?_⟩
      rw [List.nil_append, byt_back hxs hne]
      rw [show ∀ x : ByteArray, (x.toList == x.toList) = true from fun x => by simp]
      exact hfin _ (hw.trans (g2.mono hw.size))
    have hsi2 : ∀ w', Below w5.heap.size w5 w' → ((sint xs).2 ≠ 0) → ∃ sl : Sl, (Instr.sliceAt 22 (.slice b.a b.n b.c : Value) none (some (.int .i64 (sint xs).2 : Value)) none).run Try.prog w' = .ok (.slice sl.a sl.n sl.c : Value) w' ∧
        ∃ str : ByteArray, (convert 22 9 (.slice sl.a sl.n sl.c : Value)).run Try.prog w' = .ok (.string str : Value) w' ∧
        Calls Try.prog 18 #[.slice none 0 0, .int .i64 (sint xs).1] w' fun e w2 => ∃ s3 : Sl, e = .returned (.slice s3.a s3.n s3.c : Value) ∧ (convert 22 9 (.slice sl.a sl.n sl.c : Value)).run Try.prog w2 = .ok (.string str : Value) w2 ∧ (Instr.sliceAt 22 (.slice b.a b.n b.c : Value) none (some (.int .i64 (sint xs).2 : Value)) none).run Try.prog w2 = .ok (.slice sl.a sl.n sl.c : Value) w2 ∧
        ∃ str2 : ByteArray, (convert 22 9 (.slice s3.a s3.n s3.c : Value)).run Try.prog w2 = .ok (.string str2 : Value) w2 ∧ (str2 = str ∧ Below w5.heap.size w5 w2) := by
      intro w' hw hne
      obtain ⟨sl, hcut, hsl'⟩ := rd_hi Rb (sint xs).2 (sint xs).2.toNat (by omega) (by omega)
      refine ⟨sl, hcut _, _, rd_str (hsl'.below hw), ?_⟩
      refine C18 (b := ⟨none, 0, 0⟩) Rd.nil (by simp) hsi.1 hsi.2.1 ?_
      intro s3 w2 o3 g2
      refine ⟨rd_str ((hsl'.below hw).below g2), hcut _, _, rd_str o3.rd, ?_⟩
      rw [List.nil_append, sint_back hxs hne]
      exact ⟨rfl, hw.trans (g2.mono hw.size)⟩
    refine ⟨fun hu0 => ⟨fun hs0 => ⟨fun hb0 => hfin _ (Below.refl _ _), fun hb0 => hby2 _ (Below.refl _ _) hb0⟩, fun hs0 => ?_⟩, fun hu0 => ?_⟩
    · obtain ⟨sl, g1, str, g2, g3⟩ := hsi2 _ (Below.refl _ _) hs0
      refine ⟨sl, g1, str, g2, g3.mono ?_⟩
      rintro _ w2 ⟨s3, rfl, g4, g5, str2, g6, rfl, g7⟩
      exact ⟨s3, rfl, g4, g5, _, g6, fun _ => ⟨fun hb0 => hfin _ g7, fun hb0 => hby2 _ g7 hb0⟩, fun h => absurd rfl h⟩
    · obtain ⟨sl, hcut, hsl'⟩ := rd_hi Rb (uint xs).2 (uint xs).2.toNat (by omega) (by omega)
      refine ⟨sl, hcut _, _, rd_str hsl', ?_⟩
      refine C17 (b := ⟨none, 0, 0⟩) (n := (uint xs).1.toNat) (by omega) Rd.nil (by simp) (by omega) ?_
      intro s3 w2 o3 g2
      refine ⟨rd_str (hsl'.below g2), hcut _, _, rd_str o3.rd, ?_⟩
      rw [List.nil_append, uint_back hxs hu0]
      refine ⟨fun _ => ⟨fun hs0 => ⟨fun hb0 => hfin _ g2, fun hb0 => hby2 _ g2 hb0⟩, fun hs0 => ?_⟩, fun h => absurd rfl h⟩
      obtain ⟨sl, g1, str, g3, g4⟩ := hsi2 _ g2 hs0
      refine ⟨sl, g1, str, g3, g4.mono ?_⟩
      rintro _ w3 ⟨s3, rfl, g4, g5, str2, g6, rfl, g7⟩
      exact ⟨s3, rfl, g4, g5, _, g6, fun _ => ⟨fun hb0 => hfin _ g7, fun hb0 => hby2 _ g7 hb0⟩, fun h => absurd rfl h⟩
end Go.Proofs.Ythhcaaellhdkiaa
