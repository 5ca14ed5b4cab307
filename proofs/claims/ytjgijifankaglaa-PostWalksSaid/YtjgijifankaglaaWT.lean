/- The law's two rounds over the iterator. -/
import Derived.Test.YtjgijifankaglaaWE
import Derived.Test.YtjgijifankaglaaGWc
namespace Go.Proofs.Ytjgijifankaglaa
open Go Go.RowKit Go.Proofs.Ytjgijifankaglaa.SX
set_option linter.unusedVariables false

theorem iter_none (w : World) (kb : Nat) : Iter w kb (.func (.func 73) #[] #[]) [] := by
  refine ⟨73, #[], rfl, enters_of Try.func73 (by kernel_rfl) rfl, ?_⟩
  intro l J Jx W1 hz hJ hJx hJg hY h0
  have h : Calls Try.prog 73 #[.func (.yield l) #[] #[]] W1 (fun e w1 => e = .returned (.tuple #[]) ∧ w1 = W1) := F73_sound _ (fun w1 => w1 = W1) W1 rfl
  refine h.mono ?_
  rintro _ W' ⟨rfl, rfl⟩
  exact ⟨⟨_, rfl⟩, .inl h0⟩
theorem iter_mono {w w' : World} {kb : Nat} {v : Value} {M : List Pr} (h : Iter w kb v M) (q : Gr (fun k => k = kb) w w') : Iter w' kb v M := by
  obtain ⟨gf, lb, h1, h2, h3⟩ := h
  refine ⟨gf, lb, h1, h2, fun l J Jx W1 hz hJ hJx hJg hY h0 => h3 l J Jx W1 (Nat.le_trans q.size hz) hJ hJx (fun pre W hj => ?_) hY h0⟩
  have := hJg pre W hj
  have z := q.size
  exact (q.mono (T := fun k => k = kb ∨ w.heap.size ≤ k ∧ k < W1.heap.size) (fun k hk => .inl hk)).trans this (fun i hi h => by rcases h with h | h; exact .inl h; omega)
def Kbox (W : World) (kb : Nat) (q : Int) : Prop := W.heap[kb]? = some (.cells #[.int .i64 q] 3 (0, 0))
theorem kbox_gr {w W W' : World} {kb : Nat} {q : Int} (hkb : kb < w.heap.size) (hz : w.heap.size ≤ W.heap.size) (h : Kbox W kb q) (g : Gr (fun k => w.heap.size ≤ k) W W') : Kbox W' kb q := by
  unfold Kbox at h ⊢
  rw [g.block kb (by omega) (by omega)]; exact h
theorem gr_gr {w W W' : World} {kb : Nat} (h : Gr (fun k => k = kb) w W) (g : Gr (fun k => w.heap.size ≤ k) W W') : Gr (fun k => k = kb) w W' := h.trans g (fun i hi hk => by omega)
theorem kset {W : World} {kb : Nat} {q : Int} (h : Kbox W kb q) (q2 : Int) : HasCell W ⟨kb, 0, none⟩ ∧ Kbox (W.setCell ⟨kb, 0, none⟩ (.int .i64 q2)) kb q2 ∧ Gr (fun k => k = kb) W (W.setCell ⟨kb, 0, none⟩ (.int .i64 q2)) ∧ (W.setCell ⟨kb, 0, none⟩ (.int .i64 q2)).heap.size = W.heap.size :=
  ⟨has_row h (by show 0 < 1; omega), row_set2 h (j := 0) (.int .i64 q2), gr_set2 W ⟨kb, 0, none⟩ _, by unfold World.setCell; simp⟩
theorem kcell {W : World} {kb : Nat} {q : Int} (h : Kbox W kb q) : W.cell? ⟨kb, 0, none⟩ = some (.int .i64 q) := by rw [row_get2 h]; rfl
theorem keeps_refl (B : Nat) (W : World) : Keeps B W W := ⟨Nat.le_refl _, fun _ _ _ => rfl⟩
theorem keeps_k {B kb : Nat} {W W' : World} (hkb : kb < B) (g : Gr (fun k => k = kb) W W') : Keeps B W W' := ⟨g.size, fun k h1 h2 => g.block k h2 (by omega)⟩
def fr0 (f : Fr) (v3 v4 v5 v10 v11 v12 v16 : Value) : Fr := upd (upd (upd (upd (upd (upd (upd f 3 v3) 4 v4) 5 v5) 10 v10) 11 v11) 12 v12) 16 v16
theorem fr0_eq {f : Fr} {v3 v4 v5 v10 v11 v12 v16 : Value} (h3 : f 3 = v3) (h4 : f 4 = v4) (h5 : f 5 = v5) (h10 : f 10 = v10) (h11 : f 11 = v11) (h12 : f 12 = v12) (h16 : f 16 = v16) : f = fr0 f v3 v4 v5 v10 v11 v12 v16 := by
  have e1 := upd_id (g := f) rfl h3
  have e2 := upd_id (g := f) rfl h4
  have e3 := upd_id (g := f) rfl h5
  have e4 := upd_id (g := f) rfl h10
  have e5 := upd_id (g := f) rfl h11
  have e6 := upd_id (g := f) rfl h12
  have e7 := upd_id (g := f) rfl h16
  unfold fr0
  rw [e1, e2, e3, e4, e5, e6, e7]
section
variable {w : World} {bs br bw bm kb : Nat} {v : Value} {M : List Pr} {stopv : Int} {want many : Sl} {x0 : Bool} {K : Bool → World → Prop} {f : Fr}
/-- where everything lies -/
structure Tl (w : World) (bs br bw bm kb : Nat) (v : Value) (M : List Pr) (stopv : Int) (want many : Sl) (x0 : Bool) (K : Bool → World → Prop) : Prop where
  s : w.heap[bs]? = some (.cells #[.int .i64 stopv] 3 (0, 0))
  r : w.heap[br]? = some (.cells #[.bool x0] 4 (0, 0))
  wb : w.heap[bw]? = some (.cells #[.slice want.a want.n want.c] 22 (0, 0))
  mb : w.heap[bm]? = some (.cells #[.slice many.a many.n many.c] 41 (0, 0))
  wr : Rd E4 w want (M.map (·.1))
  mr : Rd (fun n => (.int .i64 n : Value)) w many (M.map (·.2))
  it : Iter w kb v M
  ne : bs ≠ kb ∧ br ≠ kb ∧ bw ≠ kb ∧ bm ≠ kb
  wne : ∀ a, want.a = some a → 0 < want.n → a.block ≠ kb
  mne : ∀ a, many.a = some a → 0 < many.n → a.block ≠ kb
  nb : M.length ≤ 1000000
  hK : ∀ W, Gr (fun k => k = kb ∨ k = br ∨ w.heap.size ≤ k) w W → K true W
abbrev FR (f : Fr) (bs br bw bm kb : Nat) (v : Value) : Fr := fr0 f (.pointer (some ⟨bs, 0, none⟩)) (.pointer (some ⟨br, 0, none⟩)) (.bool true) (.pointer (some ⟨bw, 0, none⟩)) (.pointer (some ⟨bm, 0, none⟩)) v (.pointer (some ⟨kb, 0, none⟩))
abbrev mkD (D : Nat) : Deferred := { target := .collected D, args := #[] }
abbrev QF (K : Bool → World → Prop) : Exit → Act → World → Prop := bodyPostM Fence.wide 10 Try.prog Try.f6 (fun e w1 => ∃ (r0 : Bool), e = .returned (.bool r0 : Value) ∧ K r0 w1)
theorem cell_keep {w W : World} {k b e : Nat} {cs : Array Value} (h : w.heap[b]? = some (.cells cs e (0, 0))) (q : Gr (fun i => i = k) w W) (hne : b ≠ k) : W.heap[b]? = some (.cells cs e (0, 0)) := gr_blk2 q h hne
set_option maxRecDepth 20000 in
/-- the last part -/
theorem tail_end (H : Tl w bs br bw bm kb v M stopv want many x0 K) {D1 D2 : Nat} {W : World} (h1 : w.heap.size ≤ D1) (h2 : w.heap.size ≤ D2) (hne : D1 ≠ D2) (q : Gr (fun k => k = kb) w W) (hk : Kbox W kb (M.length : Int)) (hd1 : W.heap[D1]? = some (.deferred (some []))) (hd2 : W.heap[D2]? = some (.deferred (some []))) :
    (cRs F6_body 13).wpIn Fence.wide 10 Try.prog (QF K) (mkd 128 (upd (upd (FR f bs br bw bm kb v) 88 v) 96 v) [mkD D2, mkD D1]) W := by
  show Code.wpIn Fence.wide 10 Try.prog (.seq (.region 36 _ false) .ret) _ _ _
  have hwb := cell_keep H.wb q H.ne.2.2.1
  have hrb := cell_keep H.r q H.ne.2.1
  have hwl : want.n = M.length := by have := H.wr.1; rw [List.length_map] at this; exact this.symm
  have hb : ((M.length : Int) == (want.n : Int)) = true := by rw [hwl]; exact beq_self_eq_true _
  refine wpIn_seq (i_region ?_)
  refine i_k af_wide (.bool true) W rfl rfl rfl (fun _ h => nomatch h) (by kernel_rfl) ?_
  refine i_k af_wide (.bool true) W rfl rfl rfl (fun _ h => nomatch h) (by kernel_rfl) ?_
  refine i_gyes rfl rfl rfl ?_
  refine i_v (s := Instr.loadAt 3 (.pointer (some ⟨kb, 0, none⟩))) af_wide rfl rfl rfl (fun _ h => nomatch h) (by kernel_rfl) (rn_load (by kernel_rfl) (kcell hk)) ?_
  refine i_gyes rfl rfl rfl ?_
  refine i_v (s := Instr.loadAt 22 (.pointer (some ⟨bw, 0, none⟩))) (v := .slice want.a want.n want.c) af_wide rfl rfl rfl (fun _ h => nomatch h) (by kernel_rfl) (rn_load (by kernel_rfl) (by rw [row_get2 hwb]; rfl)) ?_
  refine i_gyes rfl rfl rfl ?_
  refine i_k af_wide (.int .i64 (want.n : Int)) W rfl rfl rfl (fun _ h => nomatch h) (by kernel_rfl) ?_
  refine i_gyes rfl rfl rfl ?_
  refine i_k af_wide (.bool ((M.length : Int) == (want.n : Int))) W rfl rfl rfl (fun _ h => nomatch h) (by kernel_rfl) ?_
  refine i_k af_wide (.bool ((M.length : Int) == (want.n : Int))) W rfl rfl rfl (fun _ h => nomatch h) (by kernel_rfl) ?_
  refine i_s (s := Instr.storeAt 4 (.pointer (some ⟨br, 0, none⟩)) (.bool ((M.length : Int) == (want.n : Int)))) af_wide rfl rfl (fun _ h => nomatch h) (by kernel_rfl) (rn_store1 (by kernel_rfl) rfl (has_row hrb (by show 0 < 1; omega))) ?_
  refine i_nil ?_
  show Code.wpIn Fence.wide 10 Try.prog .ret _ _ _
  refine wpIn_ret ?_
  have hbr := H.ne.2.1
  have hrl := row_lt2 H.r
  have hset := row_set2 hrb (j := 0) (.bool ((M.length : Int) == (want.n : Int)))
  have qset := gr_set2 W ⟨br, 0, none⟩ (.bool ((M.length : Int) == (want.n : Int)))
  rw [hb] at hset qset ⊢
  generalize W.setCell ⟨br, 0, none⟩ (.bool true) = W2 at *
  have hd1' : W2.heap[D1]? = some (.deferred (some [])) := (qset.block D1 (Array.getElem?_eq_some_iff.1 hd1).1 (by (try dsimp only); omega)).trans hd1
  have hd2' : W2.heap[D2]? = some (.deferred (some [])) := (qset.block D2 (Array.getElem?_eq_some_iff.1 hd2).1 (by (try dsimp only); omega)).trans hd2
  have g2 : Gr (fun k => k = D2) W2 (W2.putObj D2 (.deferred none)) := gr_put rfl
  have hd1'' : (W2.putObj D2 (.deferred none)).heap[D1]? = some (.deferred (some [])) := (World.putObj_heap_other hne).trans hd1'
  have g1 : Gr (fun k => k = D1) (W2.putObj D2 (.deferred none)) ((W2.putObj D2 (.deferred none)).putObj D1 (.deferred none)) := gr_put rfl
  refine ⟨by simp, .inl ⟨D2, _, rfl, run_takeDeferred hd2', ⟨by simp, .inl ⟨D1, _, rfl, run_takeDeferred hd1'', ?_⟩⟩⟩⟩
  have gall : Gr (fun k => k = kb ∨ k = br ∨ w.heap.size ≤ k) w ((W2.putObj D2 (.deferred none)).putObj D1 (.deferred none)) := by
    have a1 : Gr (fun k => k = kb ∨ k = br ∨ w.heap.size ≤ k) w W := q.mono (fun k hk => .inl hk)
    have a2 := a1.trans qset (fun i _ hi => .inr (.inl hi))
    have a3 := a2.trans g2 (fun i _ hi => .inr (.inr (by (try dsimp only at hi); omega)))
    exact a3.trans g1 (fun i _ hi => .inr (.inr (by (try dsimp only at hi); omega)))
  have hres : ((W2.putObj D2 (.deferred none)).putObj D1 (.deferred none)).heap[br]? = some (.cells (#[Value.bool x0].setIfInBounds 0 (.bool true)) 4 (0, 0)) := by
    rw [World.putObj_heap_other (by omega), World.putObj_heap_other (by omega)]; exact hset
  refine ⟨.bool true, rs1 rfl (rs_cell (v := .bool true) (ad := ⟨br, 0, none⟩) rfl rfl (rn_load (by kernel_rfl) (by rw [row_get2 hres]; rfl))), true, rfl, H.hK _ gall⟩
set_option maxRecDepth 20000 in
set_option maxHeartbeats 4000000 in
/-- the second round -/
theorem tail_two (H : Tl w bs br bw bm kb v M stopv want many x0 K) (hkbl : kb < w.heap.size) {D1 : Nat} {W : World} (h1 : w.heap.size ≤ D1) (q : Gr (fun k => k = kb) w W) (hk : ∃ c : Nat, Kbox W kb (c : Int)) (hd1 : W.heap[D1]? = some (.deferred (some []))) :
    (cRs F6_body 11).wpIn Fence.wide 10 Try.prog (QF K) (mkd 128 (upd (FR f bs br bw bm kb v) 88 v) [mkD D1]) W := by
  show Code.wpIn Fence.wide 10 Try.prog (.seq (.region 29 _ false) (.seq (.seq (.region 30 _ false) (.block 8 (.rangeFunc _ _ (.seq (.region 31 _ false) (.region 32 _ false)) (.block 9 (.seq (.seq (.region 33 _ false) (.cond _ (.seq (.region 34 _ false) .ret) .skip)) (.region 35 _ false)))))) (cRs F6_body 13))) _ _ _
  obtain ⟨c0, hk⟩ := hk
  obtain ⟨hcell0, hk2, q2, hz2⟩ := kset hk 0
  refine wpIn_seq (i_region ?_)
  refine i_s (s := Instr.storeAt 3 (.pointer (some ⟨kb, 0, none⟩)) (.int .i64 0)) af_wide rfl rfl (fun _ h => nomatch h) (by kernel_rfl) (rn_store1 (by kernel_rfl) rfl hcell0) ?_
  refine i_nil ?_
  have hd1 : (W.setCell ⟨kb, 0, none⟩ (.int .i64 0)).heap[D1]? = some (.deferred (some [])) := (q2.block D1 (Array.getElem?_eq_some_iff.1 hd1).1 (by (try dsimp only); omega)).trans hd1
  have q := q.trans q2 (fun _ _ h => h)
  have zW : w.heap.size ≤ (W.setCell ⟨kb, 0, none⟩ (.int .i64 0)).heap.size := q.size
  generalize W.setCell ⟨kb, 0, none⟩ (.int .i64 0) = W2 at *
  show Code.wpIn Fence.wide 10 Try.prog (.seq (.seq (.region 30 _ false) (.block 8 (.rangeFunc _ _ (.seq (.region 31 _ false) (.region 32 _ false)) (.block 9 (.seq (.seq (.region 33 _ false) (.cond _ (.seq (.region 34 _ false) .ret) .skip)) (.region 35 _ false)))))) (cRs F6_body 13)) _ _ _
  refine wpIn_seq (wpIn_seq (i_region ?_))
  refine i_k af_wide v W2 rfl rfl rfl (fun _ h => nomatch h) (by kernel_rfl) ?_
  refine i_nil ?_
  show Code.wpIn Fence.wide 10 Try.prog (.block 8 _) _ _ _
  refine wpIn_block ?_
  have hD1 := (Array.getElem?_eq_some_iff.1 hd1).1
  refine rf_law (kb := kb) (M := M) (iter_mono H.it q) rfl rfl rfl (by omega) .ret (fun pre W' => Gr (fun k => k = kb) W2 W' ∧ Kbox W' kb ((pre.length : Nat) : Int)) (fun _ _ => False)
    (fun pre A B h g => ⟨gr_gr h.1 g, kbox_gr (w := W2) (by omega) h.1.size h.2 g⟩) (fun _ _ _ h => h.elim) (fun _ _ h => h.1) ⟨Gr.refl _ _, hk2⟩
    (fun x => upd (upd (upd (upd (upd (upd (FR f bs br bw bm kb v) 88 v) 96 v) 97 (.int .u32 x.1)) 98 (.int .i64 x.2)) 17 (.int .u32 x.1)) 18 (.int .i64 x.2)) ?assign ?body ?done (fun _ _ _ _ h => h.elim)
  case assign =>
    intro l x W' K' hK'
    rw [← mkd_nil]
    rw [← mkd_nil] at hK'
    show Code.wpIn _ _ _ (.seq (.region 31 _ false) (.region 32 _ false)) _ _ _
    refine wpIn_seq (i_region (ds := []) ?_)
    refine i_k (af_round l) (.int .u32 x.1) W' rfl rfl rfl (fun _ h => nomatch h) (by kernel_rfl) ?_
    refine i_nil ?_
    show Code.wpIn _ _ _ (.region 32 _ false) _ _ _
    refine i_region (ds := []) ?_
    refine i_k (af_round l) (.int .i64 x.2) W' rfl rfl rfl (fun _ h => nomatch h) (by kernel_rfl) ?_
    refine i_nil ?_
    exact hK'
  case body =>
    rintro l pre x W' hpre ⟨g, hk⟩
    have qw := q.trans g (fun _ _ h => h)
    have hwb := cell_keep H.wb qw H.ne.2.2.1
    have hmb := cell_keep H.mb qw H.ne.2.2.2
    obtain ⟨tl, htl⟩ := hpre
    have hlen : M.length = pre.length + 1 + tl.length := by rw [← htl]; simp; omega
    have hnb := H.nb
    have hMi : M[pre.length]? = some x := by rw [← htl]; simp
    have hwn : want.n = M.length := by have := H.wr.1; rw [List.length_map] at this; exact this.symm
    have hmn : many.n = M.length := by have := H.mr.1; rw [List.length_map] at this; exact this.symm
    have hwr := qw.rdk H.wr (fun a ha hn h => H.wne a ha hn h)
    have hmr := qw.rdk H.mr (fun a ha hn h => H.mne a ha hn h)
    have hw1 : pre.length < (M.map (·.1)).length := by rw [List.length_map]; omega
    have hm1 : pre.length < (M.map (·.2)).length := by rw [List.length_map]; omega
    obtain ⟨wa, hwa, hwc⟩ := hwr.at pre.length hw1
    obtain ⟨ma, hma, hmc⟩ := hmr.at pre.length hm1
    have ewx : (M.map (·.1))[pre.length]'hw1 = x.1 := by
      have : (M.map (·.1))[pre.length]? = some x.1 := by rw [List.getElem?_map, hMi]; rfl
      rw [List.getElem?_eq_getElem hw1] at this; exact Option.some.inj this
    have emx : (M.map (·.2))[pre.length]'hm1 = x.2 := by
      have : (M.map (·.2))[pre.length]? = some x.2 := by rw [List.getElem?_map, hMi]; rfl
      rw [List.getElem?_eq_getElem hm1] at this; exact Option.some.inj this
    rw [ewx] at hwc
    rw [emx] at hmc
    have ge0 : Value.bool (decide (((pre.length : Nat) : Int) ≥ (want.n : Int))) = .bool false := by rw [decide_eq_false (by omega)]
    have nx1 : Value.bool (x.1 != x.1) = .bool false := by rw [bne_self_eq_false]
    have nx2 : Value.bool (x.2 != x.2) = .bool false := by rw [bne_self_eq_false]
    rw [← mkd_nil]
    show Code.wpIn _ _ _ (.block 9 (.seq (.seq (.region 33 _ false) (.cond _ (.seq (.region 34 _ false) .ret) .skip)) (.region 35 _ false))) _ _ _
    refine wpIn_block (wpIn_seq (wpIn_seq (i_region (ds := []) ?_)))
    have A := af_round l
    refine i_v (s := Instr.loadAt 3 (.pointer (some ⟨kb, 0, none⟩))) A rfl rfl rfl (fun _ h => nomatch h) (by kernel_rfl) (rn_load (by kernel_rfl) (kcell hk)) ?_
    refine i_v (s := Instr.loadAt 22 (.pointer (some ⟨bw, 0, none⟩))) (v := .slice want.a want.n want.c) A rfl rfl rfl (fun _ h => nomatch h) (by kernel_rfl) (rn_load (by kernel_rfl) (by rw [row_get2 hwb]; rfl)) ?_
    refine i_k A (.int .i64 (want.n : Int)) W' rfl rfl rfl (fun _ h => nomatch h) (by kernel_rfl) ?_
    refine i_k A (.bool (decide (((pre.length : Nat) : Int) ≥ (want.n : Int)))) W' rfl rfl rfl (fun _ h => nomatch h) (by kernel_rfl) ?_
    rw [ge0]
    refine i_k A (.bool false) W' rfl rfl rfl (fun _ h => nomatch h) (by kernel_rfl) ?_
    refine i_gyes rfl rfl rfl ?_
    refine i_k A (.int .u32 x.1) W' rfl rfl rfl (fun _ h => nomatch h) (by kernel_rfl) ?_
    refine i_gyes rfl rfl rfl ?_
    refine i_v (s := Instr.loadAt 22 (.pointer (some ⟨bw, 0, none⟩))) (v := .slice want.a want.n want.c) A rfl rfl rfl (fun _ h => nomatch h) (by kernel_rfl) (rn_load (by kernel_rfl) (by rw [row_get2 hwb]; rfl)) ?_
    refine i_gyes rfl rfl rfl ?_
    refine i_v (s := Instr.loadAt 3 (.pointer (some ⟨kb, 0, none⟩))) A rfl rfl rfl (fun _ h => nomatch h) (by kernel_rfl) (rn_load (by kernel_rfl) (kcell hk)) ?_
    refine i_gyes rfl rfl rfl ?_
    refine i_v (v := .pointer (some (wa.add (Int.toNat ((pre.length : Nat) : Int))))) (s := Instr.indexAt 22 (.slice want.a want.n want.c) (.int .i64 ((pre.length : Nat) : Int))) A rfl rfl rfl (fun _ h => nomatch h) (by kernel_rfl) (run_ixs1 (el := 23) (by kernel_rfl) (by kernel_rfl) hwa (by omega) (by omega)) ?_
    refine i_gyes rfl rfl rfl ?_
    refine i_v (s := Instr.loadAt 23 (.pointer (some (wa.add (Int.toNat ((pre.length : Nat) : Int)))))) (v := .int .u32 x.1) A rfl rfl rfl (fun _ h => nomatch h) (by kernel_rfl) (rn_load (by kernel_rfl) (by rw [Int.toNat_natCast]; exact hwc)) ?_
    refine i_gyes rfl rfl rfl ?_
    refine i_k A (.bool (x.1 != x.1)) W' rfl rfl rfl (fun _ h => nomatch h) (by kernel_rfl) ?_
    rw [nx1]
    refine i_k A (.bool false) W' rfl rfl rfl (fun _ h => nomatch h) (by kernel_rfl) ?_
    refine i_k A (.bool false) W' rfl rfl rfl (fun _ h => nomatch h) (by kernel_rfl) ?_
    refine i_gyes rfl rfl rfl ?_
    refine i_k A (.int .i64 x.2) W' rfl rfl rfl (fun _ h => nomatch h) (by kernel_rfl) ?_
    refine i_gyes rfl rfl rfl ?_
    refine i_v (s := Instr.loadAt 41 (.pointer (some ⟨bm, 0, none⟩))) (v := .slice many.a many.n many.c) A rfl rfl rfl (fun _ h => nomatch h) (by kernel_rfl) (rn_load (by kernel_rfl) (by rw [row_get2 hmb]; rfl)) ?_
    refine i_gyes rfl rfl rfl ?_
    refine i_v (s := Instr.loadAt 3 (.pointer (some ⟨kb, 0, none⟩))) A rfl rfl rfl (fun _ h => nomatch h) (by kernel_rfl) (rn_load (by kernel_rfl) (kcell hk)) ?_
    refine i_gyes rfl rfl rfl ?_
    refine i_v (v := .pointer (some (ma.add (Int.toNat ((pre.length : Nat) : Int))))) (s := Instr.indexAt 41 (.slice many.a many.n many.c) (.int .i64 ((pre.length : Nat) : Int))) A rfl rfl rfl (fun _ h => nomatch h) (by kernel_rfl) (run_ixs1 (el := 3) (by kernel_rfl) (by kernel_rfl) hma (by omega) (by omega)) ?_
    refine i_gyes rfl rfl rfl ?_
    refine i_v (s := Instr.loadAt 3 (.pointer (some (ma.add (Int.toNat ((pre.length : Nat) : Int)))))) (v := .int .i64 x.2) A rfl rfl rfl (fun _ h => nomatch h) (by kernel_rfl) (rn_load (by kernel_rfl) (by rw [Int.toNat_natCast]; exact hmc)) ?_
    refine i_gyes rfl rfl rfl ?_
    refine i_k A (.bool (x.2 != x.2)) W' rfl rfl rfl (fun _ h => nomatch h) (by kernel_rfl) ?_
    rw [nx2]
    refine i_k A (.bool false) W' rfl rfl rfl (fun _ h => nomatch h) (by kernel_rfl) ?_
    refine i_nil ?_
    show Code.wpIn _ _ _ (.cond _ (.seq (.region 34 _ false) .ret) .skip) _ _ _
    refine wpIn_cond_false (by rw [eval_mkd]; rfl) ?_
    refine wpIn_skip ?_
    show Code.wpIn _ _ _ (.region 35 _ false) _ _ _
    obtain ⟨hcell1, hk1, q1, hz1⟩ := kset hk (IntKind.i64.wrap (((pre.length : Nat) : Int) + 1))
    refine i_region (ds := []) ?_
    refine i_v (s := Instr.loadAt 3 (.pointer (some ⟨kb, 0, none⟩))) A rfl rfl rfl (fun _ h => nomatch h) (by kernel_rfl) (rn_load (by kernel_rfl) (kcell hk)) ?_
    refine i_k A (.int .i64 (IntKind.i64.wrap (((pre.length : Nat) : Int) + 1))) W' rfl rfl rfl (fun _ h => nomatch h) (by kernel_rfl) ?_
    refine i_s (s := Instr.storeAt 3 (.pointer (some ⟨kb, 0, none⟩)) (.int .i64 (IntKind.i64.wrap (((pre.length : Nat) : Int) + 1)))) A rfl rfl (fun _ h => nomatch h) (by kernel_rfl) (rn_store1 (by kernel_rfl) rfl hcell1) ?_
    refine i_nil ?_
    refine .inl ⟨rfl, keeps_k (by omega) q1, g.trans q1 (fun _ _ h => h), ?_⟩
    rw [w_i64 (by omega) (by omega)] at hk1 ⊢
    have : ((pre ++ [x]).length : Int) = ((pre.length : Nat) : Int) + 1 := by rw [List.length_append]; rfl
    show Kbox _ kb (((pre ++ [x]).length : Nat) : Int)
    rw [this]
    exact hk1
  case done =>
    rintro D2 W' hD ⟨g, hk⟩ hd2
    show Code.wpIn Fence.wide 10 Try.prog (cRs F6_body 13) _ _ _
    have hdd : W'.heap[D1]? = some (.deferred (some [])) := (g.block D1 hD1 (by (try dsimp only); omega)).trans hd1
    exact tail_end H h1 (by omega) (by omega) (q.trans g (fun _ _ h => h)) hk hdd hd2
set_option maxRecDepth 20000 in
set_option maxHeartbeats 4000000 in
/-- the first round, and what follows -/
theorem tail_one (H : Tl w bs br bw bm kb v M stopv want many x0 K) (hkbl : kb < w.heap.size) (hk : Kbox w kb 0) :
    (cRs F6_body 10).wpIn Fence.wide 10 Try.prog (QF K) (mkd 128 (FR f bs br bw bm kb v) []) w := by
  show Code.wpIn Fence.wide 10 Try.prog (.seq (.seq (.region 26 _ false) (.block 6 (.rangeFunc _ _ .skip (.block 7 (.seq (.seq (.region 27 _ false) (.cond _ (.exit 6) .skip)) (.region 28 _ false)))))) (cRs F6_body 11)) _ _ _
  refine wpIn_seq (wpIn_seq (i_region ?_))
  refine i_k af_wide v w rfl rfl rfl (fun _ h => nomatch h) (by kernel_rfl) ?_
  refine i_nil ?_
  show Code.wpIn Fence.wide 10 Try.prog (.block 6 _) _ _ _
  refine wpIn_block ?_
  refine rf_law (kb := kb) (M := M) H.it rfl rfl rfl hkbl (.exit 6) (fun pre W' => Gr (fun k => k = kb) w W' ∧ Kbox W' kb ((pre.length : Nat) : Int)) (fun _ W' => Gr (fun k => k = kb) w W' ∧ ∃ c : Nat, Kbox W' kb (c : Int))
    (fun pre A B h g => ⟨gr_gr h.1 g, kbox_gr (w := w) hkbl h.1.size h.2 g⟩) (fun pre A B h g => ⟨gr_gr h.1 g, h.2.imp fun c hc => kbox_gr (w := w) hkbl h.1.size hc g⟩) (fun _ _ h => h.1) ⟨Gr.refl _ _, hk⟩
    (fun x => upd (upd (upd (FR f bs br bw bm kb v) 88 v) 89 (.int .u32 x.1)) 90 (.int .i64 x.2)) ?assign ?body ?done ?stop
  case assign =>
    intro l x W' K' hK'
    exact wpIn_skip hK'
  case body =>
    rintro l pre x W' hpre ⟨g, hk⟩
    have hsb := cell_keep H.s g H.ne.1
    obtain ⟨tl, htl⟩ := hpre
    have hlen : M.length = pre.length + 1 + tl.length := by rw [← htl]; simp; omega
    have hnb := H.nb
    have A := af_round l
    rw [← mkd_nil]
    show Code.wpIn _ _ _ (.block 7 (.seq (.seq (.region 27 _ false) (.cond _ (.exit 6) .skip)) (.region 28 _ false))) _ _ _
    refine wpIn_block (wpIn_seq (wpIn_seq (i_region (ds := []) ?_)))
    refine i_v (s := Instr.loadAt 3 (.pointer (some ⟨kb, 0, none⟩))) A rfl rfl rfl (fun _ h => nomatch h) (by kernel_rfl) (rn_load (by kernel_rfl) (kcell hk)) ?_
    refine i_v (s := Instr.loadAt 3 (.pointer (some ⟨bs, 0, none⟩))) (v := .int .i64 stopv) A rfl rfl rfl (fun _ h => nomatch h) (by kernel_rfl) (rn_load (by kernel_rfl) (by rw [row_get2 hsb]; rfl)) ?_
    refine i_k A (.bool (((pre.length : Nat) : Int) == stopv)) W' rfl rfl rfl (fun _ h => nomatch h) (by kernel_rfl) ?_
    refine i_nil ?_
    show Code.wpIn _ _ _ (.cond _ (.exit 6) .skip) _ _ _
    cases hb : (((pre.length : Nat) : Int) == stopv) with
    | true =>
      refine wpIn_cond_true (by rw [eval_mkd]; rfl) ?_
      refine wpIn_exit ?_
      exact .inr ⟨rfl, keeps_refl _ _, g, _, hk⟩
    | false =>
      refine wpIn_cond_false (by rw [eval_mkd]; rfl) ?_
      refine wpIn_skip ?_
      show Code.wpIn _ _ _ (.region 28 _ false) _ _ _
      obtain ⟨hcell1, hk1, q1, hz1⟩ := kset hk (IntKind.i64.wrap (((pre.length : Nat) : Int) + 1))
      refine i_region (ds := []) ?_
      refine i_v (s := Instr.loadAt 3 (.pointer (some ⟨kb, 0, none⟩))) A rfl rfl rfl (fun _ h => nomatch h) (by kernel_rfl) (rn_load (by kernel_rfl) (kcell hk)) ?_
      refine i_k A (.int .i64 (IntKind.i64.wrap (((pre.length : Nat) : Int) + 1))) W' rfl rfl rfl (fun _ h => nomatch h) (by kernel_rfl) ?_
      refine i_s (s := Instr.storeAt 3 (.pointer (some ⟨kb, 0, none⟩)) (.int .i64 (IntKind.i64.wrap (((pre.length : Nat) : Int) + 1)))) A rfl rfl (fun _ h => nomatch h) (by kernel_rfl) (rn_store1 (by kernel_rfl) rfl hcell1) ?_
      refine i_nil ?_
      refine .inl ⟨rfl, keeps_k hkbl q1, g.trans q1 (fun _ _ h => h), ?_⟩
      rw [w_i64 (by omega) (by omega)] at hk1 ⊢
      have : ((pre ++ [x]).length : Int) = ((pre.length : Nat) : Int) + 1 := by rw [List.length_append]; rfl
      show Kbox _ kb (((pre ++ [x]).length : Nat) : Int)
      rw [this]
      exact hk1
  case done =>
    rintro D W' hD ⟨g, hk⟩ hd
    exact tail_two H hkbl hD g ⟨_, hk⟩ hd
  case stop =>
    rintro D pre W' hD ⟨g, hk⟩ hd
    refine wpIn_exit ?_
    exact tail_two H hkbl hD g hk hd
theorem tail_all (H : Tl w bs br bw bm kb v M stopv want many x0 K) (hkbl : kb < w.heap.size) (hk : Kbox w kb 0) (g : Fr) (h3 : g 3 = .pointer (some ⟨bs, 0, none⟩)) (h4 : g 4 = .pointer (some ⟨br, 0, none⟩)) (h5 : g 5 = .bool true) (h10 : g 10 = .pointer (some ⟨bw, 0, none⟩)) (h11 : g 11 = .pointer (some ⟨bm, 0, none⟩)) (h12 : g 12 = v) (h16 : g 16 = .pointer (some ⟨kb, 0, none⟩)) :
    WC Try.prog (cRs F6_body 10) (QF K) 128 g w := by
  rw [fr0_eq h3 h4 h5 h10 h11 h12 h16]
  have h := tail_one (f := g) H hkbl hk
  rw [mkd_nil] at h
  exact ⟨wpIn_wide.1 h⟩
end
end Go.Proofs.Ytjgijifankaglaa
