/- SumTurned: the walk. -/
import Derived.Test.YtjgijifankaglaaHG
import Derived.Test.YtjgijifankaglaaHJ
import Derived.Test.YtjgijifankaglaaGSh
namespace Go.Proofs.Ytjgijifankaglaa
open Go Go.RowKit Go.Proofs.Ytjgijifankaglaa.SX
set_option linter.unusedVariables false

def ofN (l : List Nat) : List Int := l.map fun n : Nat => (n : Int)
theorem ofN_nats {bs : List Int} (h : bys bs) : ofN (nats bs) = bs := by
  unfold ofN nats
  rw [List.map_map]
  conv => rhs; rw [← List.map_id bs]
  refine List.map_congr_left fun x hx => ?_
  have := h x hx
  simp; omega
theorem nats_ofN (l : List Nat) : nats (ofN l) = l := by
  unfold ofN nats
  rw [List.map_map]
  conv => rhs; rw [← List.map_id l]
  exact List.map_congr_left fun x _ => rfl
theorem ofN_len (l : List Nat) : (ofN l).length = l.length := by unfold ofN; simp
theorem ofN_get (l : List Nat) (i : Nat) (h : i < (ofN l).length) (h2 : i < l.length) : (ofN l)[i]'h = ((l[i]'h2 : Nat) : Int) := by
  have : (ofN l)[i]? = some ((l[i]'h2 : Nat) : Int) := by unfold ofN; rw [List.getElem?_map, List.getElem?_eq_getElem h2]; rfl
  rw [List.getElem?_eq_getElem h] at this
  exact Option.some.inj this
theorem ofN_bys {l : List Nat} (h : ∀ x ∈ l, x < 256) : bys (ofN l) := by
  intro x hx
  unfold ofN at hx
  obtain ⟨n, hn, rfl⟩ := List.mem_map.1 hx
  have := h n hn
  omega
theorem nats_lt {bs : List Int} (h : bys bs) : ∀ x ∈ nats bs, x < 256 := by
  intro x hx
  unfold nats at hx
  obtain ⟨n, hn, rfl⟩ := List.mem_map.1 hx
  have := h n hn
  omega
theorem own_lit0 (w : World) : Own B8 5 w.heap.size (w.alloc (.cells #[] 5)) ⟨some ⟨w.heap.size, 0, none⟩, 0, 0⟩ [] :=
  ⟨rfl, .inr ⟨w.heap.size, 0, #[], rfl, Nat.le_refl _, heap_alloc_new w _, Nat.le_refl _, Nat.zero_le _, rfl, rfl⟩⟩
/-- append([]byte{}, b...) -/
theorem ap_lit {w : World} {b : Sl} {bs : List Int} (hr : Rd B8 w b bs) (hl : bs.length ≤ 1000000000) : ∀ (w8 : World), w8 = w.alloc (.cells #[] 5) →
    ∃ (s : Sl) (w2 : World), (Builtin.append_ #[33, 33] 33 #[.slice (some ⟨w.heap.size, 0, none⟩) 0 0, .slice b.a b.n b.c]).run Try.prog w8 = .ok (.slice s.a s.n s.c : Value) w2 ∧ Own B8 5 w.heap.size w2 s bs ∧ Below w.heap.size w w2 := by
  rintro _ rfl
  have b0 := below_row w (.cells #[] 5)
  obtain ⟨s, w2, r, A⟩ := ap_many (P := Try.prog) (ty := 33) ty22 b8one (own_lit0 w) (hr.below b0) b0.size (by rw [List.length_nil]; omega)
  refine ⟨s, w2, r, ?_, A.below (own_lit0 w) b0.size b0⟩
  have := A.own
  rwa [List.nil_append] at this
theorem F10_spec {w : World} {b : Sl} {bs : List Int} {at1 bits : Int} (hr : Rd B8 w b bs) (hb : bys bs) (hl : bs.length ≤ 100000000) (ha : -9223372036854775808 ≤ at1 ∧ at1 ≤ 9223372036854775807) (hbit : 0 ≤ bits ∧ bits ≤ 4294967295) :
    Calls Try.prog 10 #[.slice b.a b.n b.c, .int .i64 at1, .int .u32 bits] w (fun e w1 => ∃ (r0 : Bool), e = .returned (.bool r0) ∧ (r0 = true ∧ Below w.heap.size w w1)) := by
  refine F10_sound b at1 bits (fun r0 w1 => r0 = true ∧ Below w.heap.size w w1) w ?_
  unfold F10
  have hn := hr.1
  refine (C38 w).mono ?_
  rintro _ w5 ⟨_, rfl, rfl, B⟩
  refine ⟨_, rfl, (fun h => nomatch h), fun _ => ⟨fun _ => ⟨rfl, B⟩, fun h5 => ⟨fun _ => ⟨rfl, B⟩, fun hb0 => ?_⟩⟩⟩
  obtain ⟨bt, rfl⟩ : ∃ bt : Nat, bits = (bt : Int) := ⟨bits.toNat, by omega⟩
  have hj1 : ∀ a1 : Int, 0 ≤ a1 → a1 ≤ 9223372036854775807 → F10_j1 b (bt : Int) (fun r0 w1 => r0 = true ∧ Below w.heap.size w w1) a1 w5 := by
    intro a1 h0 h1
    unfold F10_j1
    obtain ⟨n, hn1, hn2⟩ : ∃ n : Nat, Int.tmod a1 (IntKind.i64.wrap ((IntKind.i64.wrap (8 * ((b.n : Int)))) - 31)) = (n : Int) ∧ n + 32 ≤ 8 * bs.length := by
      rw [w_i64 (n := 8 * (b.n : Int)) (by omega) (by omega), w_i64 (by omega) (by omega)]
      have h3 := Int.emod_nonneg a1 (b := 8 * (b.n : Int) - 31) (by omega)
      have h4 := Int.emod_lt_of_pos a1 (b := 8 * (b.n : Int) - 31) (by omega)
      rw [Int.tmod_eq_emod_of_nonneg h0]
      exact ⟨(a1 % (8 * (b.n : Int) - 31)).toNat, by omega, by omega⟩
    refine ⟨by rw [w_i64 (n := 8 * (b.n : Int)) (by omega) (by omega), w_i64 (by omega) (by omega)]; omega, ?_⟩
    intro w8 e
    obtain ⟨s, w10, r10, o10, b10⟩ := ap_lit (hr.below B) (by omega) w8 e
    refine ⟨s, w10, r10, ?_⟩
    have z5 := B.size
    refine ⟨fun st wr => ∃ i : Nat, st = (i : Int) ∧ i ≤ 32 ∧ Own B8 5 w5.heap.size wr s (ofN (zx (nats bs) ((bt % 2 ^ i) * 2 ^ n))) ∧ Below w5.heap.size w5 wr, fun st _ => (32 - st).toNat, ⟨0, rfl, by omega, by rw [Nat.pow_zero, Nat.mod_one, Nat.zero_mul, zx_zero, ofN_nats hb]; exact o10, b10⟩, ?_⟩
    have hsn := o10.len
    rintro _ wr ⟨i, rfl, hi, ho, hw⟩
    unfold F10_l2
    rw [hn1]
    refine ⟨fun hlt => ?_, fun hge => ?_⟩
    · have hi32 : i < 32 := by omega
      have hmore := bit_more bt i n
      have hsh : ishr .u32 (bt : Int) (i : Int) = ((bt / 2 ^ i : Nat) : Int) := by
        unfold ishr
        rw [Int.toNat_natCast, show min i IntKind.u32.bits = i from Nat.min_eq_left (by show i ≤ 32; omega), show (2 : Int) ^ i = ((2 ^ i : Nat) : Int) by rw [Int.natCast_pow]; rfl, Int.fdiv_eq_ediv_of_nonneg _ (Int.natCast_nonneg _), Int.natCast_ediv]
      have hlt32 : bt / 2 ^ i < 4294967296 := Nat.lt_of_le_of_lt (Nat.div_le_self _ _) (by omega)
      rw [hsh, and1 hlt32]
      have e1 : IntKind.i64.wrap ((n : Int) + (i : Int)) = ((n + i : Nat) : Int) := by rw [w_i64 (by omega) (by omega)]; omega
      have e2 : IntKind.i64.wrap (Int.tdiv ((n + i : Nat) : Int) 8) = (((n + i) / 8 : Nat) : Int) := by rw [td (by omega), w_i64 (by omega) (by omega)]; omega
      have e3 : Int.tmod ((n + i : Nat) : Int) 8 = (((n + i) % 8 : Nat) : Int) := by rw [tm (by omega)]; omega
      rw [e1, e2, e3]
      refine ⟨by omega, fun h1 => ?_, fun h1 => ?_⟩
      · intro w13 hd
        have bd : Below wr.heap.size wr w13 := by rw [hd]; exact below_draw (Below.refl _ _) 1
        clear hd
        have ho := ho.below bd
        have hw := hw.trans (bd.mono hw.size)
        have hzl : (zx (nats bs) ((bt % 2 ^ i) * 2 ^ n)).length = bs.length := by rw [zx_len, nats_len]
        have hol := ho.len
        rw [ofN_len, hzl] at hol
        have hk : (n + i) / 8 < (zx (nats bs) ((bt % 2 ^ i) * 2 ^ n)).length := by omega
        have hk2 : (n + i) / 8 < (ofN (zx (nats bs) ((bt % 2 ^ i) * 2 ^ n))).length := by rw [ofN_len]; exact hk
        have hget : (ofN (zx (nats bs) ((bt % 2 ^ i) * 2 ^ n)))[(n + i) / 8]'hk2 = (((zx (nats bs) ((bt % 2 ^ i) * 2 ^ n))[(n + i) / 8]'hk : Nat) : Int) := ofN_get _ _ hk2 hk
        have h256 := zx_lt (nats bs) ((bt % 2 ^ i) * 2 ^ n) (nats_lt hb) _ (List.getElem_mem hk)
        have hset := zx_set (nats bs) ((bt % 2 ^ i) * 2 ^ n) (n + i) hk
        obtain ⟨a, ha, hc⟩ := ho.rd.at ((n + i) / 8) hk2
        rw [hget] at hc
        generalize (zx (nats bs) ((bt % 2 ^ i) * 2 ^ n))[(n + i) / 8] = x at hc h256 hset
        obtain ⟨a2, ha2, hblk, hcell, o2, g2⟩ := ho.set ((n + i) / 8) hk2 (((x ^^^ 2 ^ ((n + i) % 8) : Nat)) : Int)
        refine ⟨by omega, by omega, a, ha, (x : Int), by rw [Int.toNat_natCast]; exact hc, by omega, by omega, by omega, a2, ha2, by rw [Int.toNat_natCast]; exact hcell, ?_⟩
        have hp8 : 2 ^ ((n + i) % 8) < 256 := by
          have := Nat.pow_lt_pow_right (a := 2) (by omega) (Nat.mod_lt (n + i) (show 8 > 0 by omega))
          simpa using this
        have hsl : ishl .u8 1 (((n + i) % 8 : Nat) : Int) = ((2 ^ ((n + i) % 8) : Nat) : Int) := by
          unfold ishl
          rw [Int.toNat_natCast, show min ((n + i) % 8) IntKind.u8.bits = (n + i) % 8 from Nat.min_eq_left (by show (n + i) % 8 ≤ 8; omega), Int.one_mul, show (2 : Int) ^ ((n + i) % 8) = ((2 ^ ((n + i) % 8) : Nat) : Int) by rw [Int.natCast_pow]; rfl, w_u8 (Int.natCast_nonneg _) (Int.ofNat_le.2 (Nat.le_of_lt_succ hp8))]
        rw [Int.toNat_natCast, hsl, ibx8 h256 hp8]
        rintro _ rfl
        unfold F10_j3
        rw [w_i64 (by omega) (by omega)]
        refine ⟨⟨i + 1, by omega, by omega, ?_, hw.grown g2 hw.size (fun k hk => (ho.blk_ge k hk).1)⟩, by (try dsimp only); omega⟩
        rw [hmore, if_pos (by omega), ← hset]
        have : ofN ((zx (nats bs) ((bt % 2 ^ i) * 2 ^ n)).set ((n + i) / 8) (x ^^^ 2 ^ ((n + i) % 8))) = (ofN (zx (nats bs) ((bt % 2 ^ i) * 2 ^ n))).set ((n + i) / 8) ((x ^^^ 2 ^ ((n + i) % 8) : Nat) : Int) := by unfold ofN; rw [List.map_set]
        rw [this]
        exact o2
      · unfold F10_j3
        rw [w_i64 (by omega) (by omega)]
        refine ⟨⟨i + 1, by omega, by omega, ?_, hw⟩, by (try dsimp only); omega⟩
        rw [hmore, if_neg (by omega)]
        exact ho
    · have hi32 : i = 32 := by omega
      subst hi32
      rw [Nat.mod_eq_of_lt (by omega : bt < 2 ^ 32)] at ho
      have Bw := B.trans (hw.mono B.size)
      have hzl : (zx (nats bs) (bt * 2 ^ n)).length = bs.length := by rw [zx_len, nats_len]
      have hturn := crc_turned (nats bs) bt n (by omega) (by omega) (by rw [nats_len]; omega)
      intro w19 e
      obtain ⟨d, w21, r21, o21, b21⟩ := ap_lit (hr.below Bw) (by omega) w19 e
      clear e
      refine ⟨d, w21, r21, ?_⟩
      have ho := ho.below b21
      have Bw := Bw.trans (b21.mono Bw.size)
      refine (C40 ho.rd (ofN_bys (zx_lt _ _ (nats_lt hb)))).mono ?_
      rintro _ w23 ⟨_, rfl, rfl, bq⟩
      have o21 := o21.below bq
      have Bw := Bw.trans (bq.mono Bw.size)
      refine ⟨_, rfl, ?_⟩
      refine (C40 (hr.below Bw) hb).mono ?_
      rintro _ w25 ⟨_, rfl, rfl, bq⟩
      have o21 := o21.below bq
      have Bw := Bw.trans (bq.mono Bw.size)
      refine ⟨_, rfl, fun _ => ?_, fun h => absurd h ?_⟩
      · refine (C40 o21.rd hb).mono ?_
        rintro _ w27 ⟨_, rfl, rfl, bq⟩
        have o21 := o21.below bq
        have Bw := Bw.trans (bq.mono Bw.size)
        refine ⟨_, rfl, ?_⟩
        refine (C40 (hr.below Bw) hb).mono ?_
        rintro _ w29 ⟨_, rfl, rfl, bq⟩
        have o21 := o21.below bq
        have Bw := Bw.trans (bq.mono Bw.size)
        refine ⟨_, rfl, fun _ => ?_, fun h => absurd rfl h⟩
        refine (C41 o21.rd (by omega)).mono ?_
        rintro _ w31 ⟨_, rfl, rfl, bq⟩
        have Bw := Bw.trans (bq.mono Bw.size)
        refine ⟨_, rfl, ?_⟩
        refine (C41 (hr.below Bw) (by omega)).mono ?_
        rintro _ w33 ⟨_, rfl, rfl, bq⟩
        have Bw := Bw.trans (bq.mono Bw.size)
        exact ⟨_, rfl, true, eq_dig _ _ _ _, rfl, Bw⟩
      · rw [nats_ofN]
        intro h
        exact hturn (by omega)
  refine ⟨fun h => ?_, fun h => hj1 _ (by omega) (by omega)⟩
  rw [w_i64 (n := at1 + 1) (by omega) (by omega), w_i64 (by omega) (by omega)]
  exact hj1 _ (by omega) (by omega)
end Go.Proofs.Ytjgijifankaglaa
