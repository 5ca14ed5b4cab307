/- The digests of the document's examples, step by step; a digest is like itself. -/
import Derived.Test.YtjgijifankaglaaHB
import Derived.Test.YtjgijifankaglaaHD
import Derived.ChangeKeysEq
namespace Go.Proofs.Ytjgijifankaglaa
open Go Go.RowKit Go.Proofs.Ytjgijifankaglaa.SX
set_option linter.unusedVariables false

/-- the digest's bytes -/
def dbl (s : S8) : List Int := (List.range 32).map fun i => IntKind.u8.wrap (ishr .u32 (s.at (i / 4)) (24 - 8 * ((i % 4 : Nat) : Int)))
theorem digV_dbl (s : S8) : digV s = ((dbl s).map B8).toArray := by unfold digV dbl; rw [List.map_map]; rfl
theorem dbl_len (s : S8) : (dbl s).length = 32 := by unfold dbl; simp
theorem dbl_bys (s : S8) : bys (dbl s) := by
  intro x hx
  unfold dbl at hx
  obtain ⟨i, _, rfl⟩ := List.mem_map.1 hx
  rw [wm_u8]; omega
theorem k_0 : KR 0 = 1116352408 := by decide +kernel
theorem k_1 : KR 1 = 1899447441 := by decide +kernel
theorem k_2 : KR 2 = 3049323471 := by decide +kernel
theorem k_3 : KR 3 = 3921009573 := by decide +kernel
theorem k_4 : KR 4 = 961987163 := by decide +kernel
theorem k_5 : KR 5 = 1508970993 := by decide +kernel
theorem k_6 : KR 6 = 2453635748 := by decide +kernel
theorem k_7 : KR 7 = 2870763221 := by decide +kernel
theorem k_8 : KR 8 = 3624381080 := by decide +kernel
theorem k_9 : KR 9 = 310598401 := by decide +kernel
theorem k_10 : KR 10 = 607225278 := by decide +kernel
theorem k_11 : KR 11 = 1426881987 := by decide +kernel
theorem k_12 : KR 12 = 1925078388 := by decide +kernel
theorem k_13 : KR 13 = 2162078206 := by decide +kernel
theorem k_14 : KR 14 = 2614888103 := by decide +kernel
theorem k_15 : KR 15 = 3248222580 := by decide +kernel
theorem k_16 : KR 16 = 3835390401 := by decide +kernel
theorem k_17 : KR 17 = 4022224774 := by decide +kernel
theorem k_18 : KR 18 = 264347078 := by decide +kernel
theorem k_19 : KR 19 = 604807628 := by decide +kernel
theorem k_20 : KR 20 = 770255983 := by decide +kernel
theorem k_21 : KR 21 = 1249150122 := by decide +kernel
theorem k_22 : KR 22 = 1555081692 := by decide +kernel
theorem k_23 : KR 23 = 1996064986 := by decide +kernel
theorem k_24 : KR 24 = 2554220882 := by decide +kernel
theorem k_25 : KR 25 = 2821834349 := by decide +kernel
theorem k_26 : KR 26 = 2952996808 := by decide +kernel
theorem k_27 : KR 27 = 3210313671 := by decide +kernel
theorem k_28 : KR 28 = 3336571891 := by decide +kernel
theorem k_29 : KR 29 = 3584528711 := by decide +kernel
theorem k_30 : KR 30 = 113926993 := by decide +kernel
theorem k_31 : KR 31 = 338241895 := by decide +kernel
theorem k_32 : KR 32 = 666307205 := by decide +kernel
theorem k_33 : KR 33 = 773529912 := by decide +kernel
theorem k_34 : KR 34 = 1294757372 := by decide +kernel
theorem k_35 : KR 35 = 1396182291 := by decide +kernel
theorem k_36 : KR 36 = 1695183700 := by decide +kernel
theorem k_37 : KR 37 = 1986661051 := by decide +kernel
theorem k_38 : KR 38 = 2177026350 := by decide +kernel
theorem k_39 : KR 39 = 2456956037 := by decide +kernel
theorem k_40 : KR 40 = 2730485921 := by decide +kernel
theorem k_41 : KR 41 = 2820302411 := by decide +kernel
theorem k_42 : KR 42 = 3259730800 := by decide +kernel
theorem k_43 : KR 43 = 3345764771 := by decide +kernel
theorem k_44 : KR 44 = 3516065817 := by decide +kernel
theorem k_45 : KR 45 = 3600352804 := by decide +kernel
theorem k_46 : KR 46 = 4094571909 := by decide +kernel
theorem k_47 : KR 47 = 275423344 := by decide +kernel
theorem k_48 : KR 48 = 430227734 := by decide +kernel
theorem k_49 : KR 49 = 506948616 := by decide +kernel
theorem k_50 : KR 50 = 659060556 := by decide +kernel
theorem k_51 : KR 51 = 883997877 := by decide +kernel
theorem k_52 : KR 52 = 958139571 := by decide +kernel
theorem k_53 : KR 53 = 1322822218 := by decide +kernel
theorem k_54 : KR 54 = 1537002063 := by decide +kernel
theorem k_55 : KR 55 = 1747873779 := by decide +kernel
theorem k_56 : KR 56 = 1955562222 := by decide +kernel
theorem k_57 : KR 57 = 2024104815 := by decide +kernel
theorem k_58 : KR 58 = 2227730452 := by decide +kernel
theorem k_59 : KR 59 = 2361852424 := by decide +kernel
theorem k_60 : KR 60 = 2428436474 := by decide +kernel
theorem k_61 : KR 61 = 2756734187 := by decide +kernel
theorem k_62 : KR 62 = 3204031479 := by decide +kernel
theorem k_63 : KR 63 = 3329325298 := by decide +kernel
def L_abc : List Int := [97, 98, 99, 128, 0, 0, 0, 0, 0, 0, 0, 0, 0, 0, 0, 0, 0, 0, 0, 0, 0, 0, 0, 0, 0, 0, 0, 0, 0, 0, 0, 0, 0, 0, 0, 0, 0, 0, 0, 0, 0, 0, 0, 0, 0, 0, 0, 0, 0, 0, 0, 0, 0, 0, 0, 0, 0, 0, 0, 0, 0, 0, 0, 24]
theorem pad_abc : padS [97, 98, 99] = L_abc := by decide +kernel
theorem w_abc_0 : Wt L_abc 0 = 1633837952 := (Wt_lo (by omega)).trans (by decide +kernel)
theorem w_abc_1 : Wt L_abc 1 = 0 := (Wt_lo (by omega)).trans (by decide +kernel)
theorem w_abc_2 : Wt L_abc 2 = 0 := (Wt_lo (by omega)).trans (by decide +kernel)
theorem w_abc_3 : Wt L_abc 3 = 0 := (Wt_lo (by omega)).trans (by decide +kernel)
theorem w_abc_4 : Wt L_abc 4 = 0 := (Wt_lo (by omega)).trans (by decide +kernel)
theorem w_abc_5 : Wt L_abc 5 = 0 := (Wt_lo (by omega)).trans (by decide +kernel)
theorem w_abc_6 : Wt L_abc 6 = 0 := (Wt_lo (by omega)).trans (by decide +kernel)
theorem w_abc_7 : Wt L_abc 7 = 0 := (Wt_lo (by omega)).trans (by decide +kernel)
theorem w_abc_8 : Wt L_abc 8 = 0 := (Wt_lo (by omega)).trans (by decide +kernel)
theorem w_abc_9 : Wt L_abc 9 = 0 := (Wt_lo (by omega)).trans (by decide +kernel)
theorem w_abc_10 : Wt L_abc 10 = 0 := (Wt_lo (by omega)).trans (by decide +kernel)
theorem w_abc_11 : Wt L_abc 11 = 0 := (Wt_lo (by omega)).trans (by decide +kernel)
theorem w_abc_12 : Wt L_abc 12 = 0 := (Wt_lo (by omega)).trans (by decide +kernel)
theorem w_abc_13 : Wt L_abc 13 = 0 := (Wt_lo (by omega)).trans (by decide +kernel)
theorem w_abc_14 : Wt L_abc 14 = 0 := (Wt_lo (by omega)).trans (by decide +kernel)
theorem w_abc_15 : Wt L_abc 15 = 24 := (Wt_lo (by omega)).trans (by decide +kernel)
theorem w_abc_16 : Wt L_abc 16 = 1633837952 := (Wt_hi (by omega)).trans (by show wn (Wt L_abc 14) (Wt L_abc 1) (Wt L_abc 9) (Wt L_abc 0) = _; rw [w_abc_14, w_abc_1, w_abc_9, w_abc_0]; decide +kernel)
theorem w_abc_17 : Wt L_abc 17 = 983040 := (Wt_hi (by omega)).trans (by show wn (Wt L_abc 15) (Wt L_abc 2) (Wt L_abc 10) (Wt L_abc 1) = _; rw [w_abc_15, w_abc_2, w_abc_10, w_abc_1]; decide +kernel)
theorem w_abc_18 : Wt L_abc 18 = 2108187653 := (Wt_hi (by omega)).trans (by show wn (Wt L_abc 16) (Wt L_abc 3) (Wt L_abc 11) (Wt L_abc 2) = _; rw [w_abc_16, w_abc_3, w_abc_11, w_abc_2]; decide +kernel)
theorem w_abc_19 : Wt L_abc 19 = 1610613702 := (Wt_hi (by omega)).trans (by show wn (Wt L_abc 17) (Wt L_abc 4) (Wt L_abc 12) (Wt L_abc 3) = _; rw [w_abc_17, w_abc_4, w_abc_12, w_abc_3]; decide +kernel)
theorem w_abc_20 : Wt L_abc 20 = 1050508152 := (Wt_hi (by omega)).trans (by show wn (Wt L_abc 18) (Wt L_abc 5) (Wt L_abc 13) (Wt L_abc 4) = _; rw [w_abc_18, w_abc_5, w_abc_13, w_abc_4]; decide +kernel)
theorem w_abc_21 : Wt L_abc 21 = 25426944 := (Wt_hi (by omega)).trans (by show wn (Wt L_abc 19) (Wt L_abc 6) (Wt L_abc 14) (Wt L_abc 5) = _; rw [w_abc_19, w_abc_6, w_abc_14, w_abc_5]; decide +kernel)
theorem w_abc_22 : Wt L_abc 22 = 316456923 := (Wt_hi (by omega)).trans (by show wn (Wt L_abc 20) (Wt L_abc 7) (Wt L_abc 15) (Wt L_abc 6) = _; rw [w_abc_20, w_abc_7, w_abc_15, w_abc_6]; decide +kernel)
theorem w_abc_23 : Wt L_abc 23 = 3806512014 := (Wt_hi (by omega)).trans (by show wn (Wt L_abc 21) (Wt L_abc 8) (Wt L_abc 16) (Wt L_abc 7) = _; rw [w_abc_21, w_abc_8, w_abc_16, w_abc_7]; decide +kernel)
theorem w_abc_24 : Wt L_abc 24 = 3357629466 := (Wt_hi (by omega)).trans (by show wn (Wt L_abc 22) (Wt L_abc 9) (Wt L_abc 17) (Wt L_abc 8) = _; rw [w_abc_22, w_abc_9, w_abc_17, w_abc_8]; decide +kernel)
theorem w_abc_25 : Wt L_abc 25 = 3073800610 := (Wt_hi (by omega)).trans (by show wn (Wt L_abc 23) (Wt L_abc 10) (Wt L_abc 18) (Wt L_abc 9) = _; rw [w_abc_23, w_abc_10, w_abc_18, w_abc_9]; decide +kernel)
theorem w_abc_26 : Wt L_abc 26 = 3854317833 := (Wt_hi (by omega)).trans (by show wn (Wt L_abc 24) (Wt L_abc 11) (Wt L_abc 19) (Wt L_abc 10) = _; rw [w_abc_24, w_abc_11, w_abc_19, w_abc_10]; decide +kernel)
theorem w_abc_27 : Wt L_abc 27 = 845560923 := (Wt_hi (by omega)).trans (by show wn (Wt L_abc 25) (Wt L_abc 12) (Wt L_abc 20) (Wt L_abc 11) = _; rw [w_abc_25, w_abc_12, w_abc_20, w_abc_11]; decide +kernel)
theorem w_abc_28 : Wt L_abc 28 = 2636160359 := (Wt_hi (by omega)).trans (by show wn (Wt L_abc 26) (Wt L_abc 13) (Wt L_abc 21) (Wt L_abc 12) = _; rw [w_abc_26, w_abc_13, w_abc_21, w_abc_12]; decide +kernel)
theorem w_abc_29 : Wt L_abc 29 = 3968280267 := (Wt_hi (by omega)).trans (by show wn (Wt L_abc 27) (Wt L_abc 14) (Wt L_abc 22) (Wt L_abc 13) = _; rw [w_abc_27, w_abc_14, w_abc_22, w_abc_13]; decide +kernel)
theorem w_abc_30 : Wt L_abc 30 = 1881225380 := (Wt_hi (by omega)).trans (by show wn (Wt L_abc 28) (Wt L_abc 15) (Wt L_abc 23) (Wt L_abc 14) = _; rw [w_abc_28, w_abc_15, w_abc_23, w_abc_14]; decide +kernel)
theorem w_abc_31 : Wt L_abc 31 = 3552024379 := (Wt_hi (by omega)).trans (by show wn (Wt L_abc 29) (Wt L_abc 16) (Wt L_abc 24) (Wt L_abc 15) = _; rw [w_abc_29, w_abc_16, w_abc_24, w_abc_15]; decide +kernel)
theorem w_abc_32 : Wt L_abc 32 = 2482346367 := (Wt_hi (by omega)).trans (by show wn (Wt L_abc 30) (Wt L_abc 17) (Wt L_abc 25) (Wt L_abc 16) = _; rw [w_abc_30, w_abc_17, w_abc_25, w_abc_16]; decide +kernel)
theorem w_abc_33 : Wt L_abc 33 = 996719219 := (Wt_hi (by omega)).trans (by show wn (Wt L_abc 31) (Wt L_abc 18) (Wt L_abc 26) (Wt L_abc 17) = _; rw [w_abc_31, w_abc_18, w_abc_26, w_abc_17]; decide +kernel)
theorem w_abc_34 : Wt L_abc 34 = 2952069057 := (Wt_hi (by omega)).trans (by show wn (Wt L_abc 32) (Wt L_abc 19) (Wt L_abc 27) (Wt L_abc 18) = _; rw [w_abc_32, w_abc_19, w_abc_27, w_abc_18]; decide +kernel)
theorem w_abc_35 : Wt L_abc 35 = 4043988066 := (Wt_hi (by omega)).trans (by show wn (Wt L_abc 33) (Wt L_abc 20) (Wt L_abc 28) (Wt L_abc 19) = _; rw [w_abc_33, w_abc_20, w_abc_28, w_abc_19]; decide +kernel)
theorem w_abc_36 : Wt L_abc 36 = 176896406 := (Wt_hi (by omega)).trans (by show wn (Wt L_abc 34) (Wt L_abc 21) (Wt L_abc 29) (Wt L_abc 20) = _; rw [w_abc_34, w_abc_21, w_abc_29, w_abc_20]; decide +kernel)
theorem w_abc_37 : Wt L_abc 37 = 1924104970 := (Wt_hi (by omega)).trans (by show wn (Wt L_abc 35) (Wt L_abc 22) (Wt L_abc 30) (Wt L_abc 21) = _; rw [w_abc_35, w_abc_22, w_abc_30, w_abc_21]; decide +kernel)
theorem w_abc_38 : Wt L_abc 38 = 2483675966 := (Wt_hi (by omega)).trans (by show wn (Wt L_abc 36) (Wt L_abc 23) (Wt L_abc 31) (Wt L_abc 22) = _; rw [w_abc_36, w_abc_23, w_abc_31, w_abc_22]; decide +kernel)
theorem w_abc_39 : Wt L_abc 39 = 610538786 := (Wt_hi (by omega)).trans (by show wn (Wt L_abc 37) (Wt L_abc 24) (Wt L_abc 32) (Wt L_abc 23) = _; rw [w_abc_37, w_abc_24, w_abc_32, w_abc_23]; decide +kernel)
theorem w_abc_40 : Wt L_abc 40 = 2672279444 := (Wt_hi (by omega)).trans (by show wn (Wt L_abc 38) (Wt L_abc 25) (Wt L_abc 33) (Wt L_abc 24) = _; rw [w_abc_38, w_abc_25, w_abc_33, w_abc_24]; decide +kernel)
theorem w_abc_41 : Wt L_abc 41 = 4037431130 := (Wt_hi (by omega)).trans (by show wn (Wt L_abc 39) (Wt L_abc 26) (Wt L_abc 34) (Wt L_abc 25) = _; rw [w_abc_39, w_abc_26, w_abc_34, w_abc_25]; decide +kernel)
theorem w_abc_42 : Wt L_abc 42 = 1042573945 := (Wt_hi (by omega)).trans (by show wn (Wt L_abc 40) (Wt L_abc 27) (Wt L_abc 35) (Wt L_abc 26) = _; rw [w_abc_40, w_abc_27, w_abc_35, w_abc_26]; decide +kernel)
theorem w_abc_43 : Wt L_abc 43 = 657669027 := (Wt_hi (by omega)).trans (by show wn (Wt L_abc 41) (Wt L_abc 28) (Wt L_abc 36) (Wt L_abc 27) = _; rw [w_abc_41, w_abc_28, w_abc_36, w_abc_27]; decide +kernel)
theorem w_abc_44 : Wt L_abc 44 = 206005234 := (Wt_hi (by omega)).trans (by show wn (Wt L_abc 42) (Wt L_abc 29) (Wt L_abc 37) (Wt L_abc 28) = _; rw [w_abc_42, w_abc_29, w_abc_37, w_abc_28]; decide +kernel)
theorem w_abc_45 : Wt L_abc 45 = 2215296807 := (Wt_hi (by omega)).trans (by show wn (Wt L_abc 43) (Wt L_abc 30) (Wt L_abc 38) (Wt L_abc 29) = _; rw [w_abc_43, w_abc_30, w_abc_38, w_abc_29]; decide +kernel)
theorem w_abc_46 : Wt L_abc 46 = 2049510749 := (Wt_hi (by omega)).trans (by show wn (Wt L_abc 44) (Wt L_abc 31) (Wt L_abc 39) (Wt L_abc 30) = _; rw [w_abc_44, w_abc_31, w_abc_39, w_abc_30]; decide +kernel)
theorem w_abc_47 : Wt L_abc 47 = 106709978 := (Wt_hi (by omega)).trans (by show wn (Wt L_abc 45) (Wt L_abc 32) (Wt L_abc 40) (Wt L_abc 31) = _; rw [w_abc_45, w_abc_32, w_abc_40, w_abc_31]; decide +kernel)
theorem w_abc_48 : Wt L_abc 48 = 4215179723 := (Wt_hi (by omega)).trans (by show wn (Wt L_abc 46) (Wt L_abc 33) (Wt L_abc 41) (Wt L_abc 32) = _; rw [w_abc_46, w_abc_33, w_abc_41, w_abc_32]; decide +kernel)
theorem w_abc_49 : Wt L_abc 49 = 3430291419 := (Wt_hi (by omega)).trans (by show wn (Wt L_abc 47) (Wt L_abc 34) (Wt L_abc 42) (Wt L_abc 33) = _; rw [w_abc_47, w_abc_34, w_abc_42, w_abc_33]; decide +kernel)
theorem w_abc_50 : Wt L_abc 50 = 3118885940 := (Wt_hi (by omega)).trans (by show wn (Wt L_abc 48) (Wt L_abc 35) (Wt L_abc 43) (Wt L_abc 34) = _; rw [w_abc_48, w_abc_35, w_abc_43, w_abc_34]; decide +kernel)
theorem w_abc_51 : Wt L_abc 51 = 2845390439 := (Wt_hi (by omega)).trans (by show wn (Wt L_abc 49) (Wt L_abc 36) (Wt L_abc 44) (Wt L_abc 35) = _; rw [w_abc_49, w_abc_36, w_abc_44, w_abc_35]; decide +kernel)
theorem w_abc_52 : Wt L_abc 52 = 2226839261 := (Wt_hi (by omega)).trans (by show wn (Wt L_abc 50) (Wt L_abc 37) (Wt L_abc 45) (Wt L_abc 36) = _; rw [w_abc_50, w_abc_37, w_abc_45, w_abc_36]; decide +kernel)
theorem w_abc_53 : Wt L_abc 53 = 3256115900 := (Wt_hi (by omega)).trans (by show wn (Wt L_abc 51) (Wt L_abc 38) (Wt L_abc 46) (Wt L_abc 37) = _; rw [w_abc_51, w_abc_38, w_abc_46, w_abc_37]; decide +kernel)
theorem w_abc_54 : Wt L_abc 54 = 344409900 := (Wt_hi (by omega)).trans (by show wn (Wt L_abc 52) (Wt L_abc 39) (Wt L_abc 47) (Wt L_abc 38) = _; rw [w_abc_52, w_abc_39, w_abc_47, w_abc_38]; decide +kernel)
theorem w_abc_55 : Wt L_abc 55 = 2987358873 := (Wt_hi (by omega)).trans (by show wn (Wt L_abc 53) (Wt L_abc 40) (Wt L_abc 48) (Wt L_abc 39) = _; rw [w_abc_53, w_abc_40, w_abc_48, w_abc_39]; decide +kernel)
theorem w_abc_56 : Wt L_abc 56 = 4015503821 := (Wt_hi (by omega)).trans (by show wn (Wt L_abc 54) (Wt L_abc 41) (Wt L_abc 49) (Wt L_abc 40) = _; rw [w_abc_54, w_abc_41, w_abc_49, w_abc_40]; decide +kernel)
theorem w_abc_57 : Wt L_abc 57 = 3957764664 := (Wt_hi (by omega)).trans (by show wn (Wt L_abc 55) (Wt L_abc 42) (Wt L_abc 50) (Wt L_abc 41) = _; rw [w_abc_55, w_abc_42, w_abc_50, w_abc_41]; decide +kernel)
theorem w_abc_58 : Wt L_abc 58 = 2682456414 := (Wt_hi (by omega)).trans (by show wn (Wt L_abc 56) (Wt L_abc 43) (Wt L_abc 51) (Wt L_abc 42) = _; rw [w_abc_56, w_abc_43, w_abc_51, w_abc_42]; decide +kernel)
theorem w_abc_59 : Wt L_abc 59 = 2025622859 := (Wt_hi (by omega)).trans (by show wn (Wt L_abc 57) (Wt L_abc 44) (Wt L_abc 52) (Wt L_abc 43) = _; rw [w_abc_57, w_abc_44, w_abc_52, w_abc_43]; decide +kernel)
theorem w_abc_60 : Wt L_abc 60 = 2755645205 := (Wt_hi (by omega)).trans (by show wn (Wt L_abc 58) (Wt L_abc 45) (Wt L_abc 53) (Wt L_abc 44) = _; rw [w_abc_58, w_abc_45, w_abc_53, w_abc_44]; decide +kernel)
theorem w_abc_61 : Wt L_abc 61 = 1720397816 := (Wt_hi (by omega)).trans (by show wn (Wt L_abc 59) (Wt L_abc 46) (Wt L_abc 54) (Wt L_abc 45) = _; rw [w_abc_59, w_abc_46, w_abc_54, w_abc_45]; decide +kernel)
theorem w_abc_62 : Wt L_abc 62 = 4004225740 := (Wt_hi (by omega)).trans (by show wn (Wt L_abc 60) (Wt L_abc 47) (Wt L_abc 55) (Wt L_abc 46) = _; rw [w_abc_60, w_abc_47, w_abc_55, w_abc_46]; decide +kernel)
theorem w_abc_63 : Wt L_abc 63 = 313650667 := (Wt_hi (by omega)).trans (by show wn (Wt L_abc 61) (Wt L_abc 48) (Wt L_abc 56) (Wt L_abc 47) = _; rw [w_abc_61, w_abc_48, w_abc_56, w_abc_47]; decide +kernel)
theorem r_abc_0 : S8.start.run KR (Wt L_abc) 0 = ⟨1779033703, 3144134277, 1013904242, 2773480762, 1359893119, 2600822924, 528734635, 1541459225⟩ := rfl
theorem r_abc_1 : S8.start.run KR (Wt L_abc) 1 = ⟨1567288269, 1779033703, 3144134277, 1013904242, 4197074466, 1359893119, 2600822924, 528734635⟩ := by
  rw [S8.run, r_abc_0, w_abc_0, k_0]; unfold S8.step; simp only [S8.mk.injEq]; decide +kernel
theorem r_abc_2 : S8.start.run KR (Wt L_abc) 2 = ⟨1516951981, 1567288269, 1779033703, 3144134277, 2026797449, 4197074466, 1359893119, 2600822924⟩ := by
  rw [S8.run, r_abc_1, w_abc_1, k_1]; unfold S8.step; simp only [S8.mk.injEq]; decide +kernel
theorem r_abc_3 : S8.start.run KR (Wt L_abc) 3 = ⟨3368241063, 1516951981, 1567288269, 1779033703, 4180228587, 2026797449, 4197074466, 1359893119⟩ := by
  rw [S8.run, r_abc_2, w_abc_2, k_2]; unfold S8.step; simp only [S8.mk.injEq]; decide +kernel
theorem r_abc_4 : S8.start.run KR (Wt L_abc) 4 = ⟨3578852966, 3368241063, 1516951981, 1567288269, 618661968, 4180228587, 2026797449, 4197074466⟩ := by
  rw [S8.run, r_abc_3, w_abc_3, k_3]; unfold S8.step; simp only [S8.mk.injEq]; decide +kernel
theorem r_abc_5 : S8.start.run KR (Wt L_abc) 5 = ⟨71342698, 3578852966, 3368241063, 1516951981, 1135452741, 618661968, 4180228587, 2026797449⟩ := by
  rw [S8.run, r_abc_4, w_abc_4, k_4]; unfold S8.step; simp only [S8.mk.injEq]; decide +kernel
theorem r_abc_6 : S8.start.run KR (Wt L_abc) 6 = ⟨725748213, 71342698, 3578852966, 3368241063, 1900175533, 1135452741, 618661968, 4180228587⟩ := by
  rw [S8.run, r_abc_5, w_abc_5, k_5]; unfold S8.step; simp only [S8.mk.injEq]; decide +kernel
theorem r_abc_7 : S8.start.run KR (Wt L_abc) 7 = ⟨3842179968, 725748213, 71342698, 3578852966, 2603066369, 1900175533, 1135452741, 618661968⟩ := by
  rw [S8.run, r_abc_6, w_abc_6, k_6]; unfold S8.step; simp only [S8.mk.injEq]; decide +kernel
theorem r_abc_8 : S8.start.run KR (Wt L_abc) 8 = ⟨2241887071, 3842179968, 725748213, 71342698, 207977081, 2603066369, 1900175533, 1135452741⟩ := by
  rw [S8.run, r_abc_7, w_abc_7, k_7]; unfold S8.step; simp only [S8.mk.injEq]; decide +kernel
theorem r_abc_9 : S8.start.run KR (Wt L_abc) 9 = ⟨2382687417, 2241887071, 3842179968, 725748213, 852110732, 207977081, 2603066369, 1900175533⟩ := by
  rw [S8.run, r_abc_8, w_abc_8, k_8]; unfold S8.step; simp only [S8.mk.injEq]; decide +kernel
theorem r_abc_10 : S8.start.run KR (Wt L_abc) 10 = ⟨2357671019, 2382687417, 2241887071, 3842179968, 482944406, 852110732, 207977081, 2603066369⟩ := by
  rw [S8.run, r_abc_9, w_abc_9, k_9]; unfold S8.step; simp only [S8.mk.injEq]; decide +kernel
theorem r_abc_11 : S8.start.run KR (Wt L_abc) 11 = ⟨1201185780, 2357671019, 2382687417, 2241887071, 1131095016, 482944406, 852110732, 207977081⟩ := by
  rw [S8.run, r_abc_10, w_abc_10, k_10]; unfold S8.step; simp only [S8.mk.injEq]; decide +kernel
theorem r_abc_12 : S8.start.run KR (Wt L_abc) 12 = ⟨4146054569, 1201185780, 2357671019, 2382687417, 2171590377, 1131095016, 482944406, 852110732⟩ := by
  rw [S8.run, r_abc_11, w_abc_11, k_11]; unfold S8.step; simp only [S8.mk.injEq]; decide +kernel
theorem r_abc_13 : S8.start.run KR (Wt L_abc) 13 = ⟨2274437520, 4146054569, 1201185780, 2357671019, 509051416, 2171590377, 1131095016, 482944406⟩ := by
  rw [S8.run, r_abc_12, w_abc_12, k_12]; unfold S8.step; simp only [S8.mk.injEq]; decide +kernel
theorem r_abc_14 : S8.start.run KR (Wt L_abc) 14 = ⟨3643992854, 2274437520, 4146054569, 1201185780, 1952073950, 509051416, 2171590377, 1131095016⟩ := by
  rw [S8.run, r_abc_13, w_abc_13, k_13]; unfold S8.step; simp only [S8.mk.injEq]; decide +kernel
theorem r_abc_15 : S8.start.run KR (Wt L_abc) 15 = ⟨3227803614, 3643992854, 2274437520, 4146054569, 194179596, 1952073950, 509051416, 2171590377⟩ := by
  rw [S8.run, r_abc_14, w_abc_14, k_14]; unfold S8.step; simp only [S8.mk.injEq]; decide +kernel
theorem r_abc_16 : S8.start.run KR (Wt L_abc) 16 = ⟨2969183118, 3227803614, 3643992854, 2274437520, 123276749, 194179596, 1952073950, 509051416⟩ := by
  rw [S8.run, r_abc_15, w_abc_15, k_15]; unfold S8.step; simp only [S8.mk.injEq]; decide +kernel
theorem r_abc_17 : S8.start.run KR (Wt L_abc) 17 = ⟨567974555, 2969183118, 3227803614, 3643992854, 2150900380, 123276749, 194179596, 1952073950⟩ := by
  rw [S8.run, r_abc_16, w_abc_16, k_16]; unfold S8.step; simp only [S8.mk.injEq]; decide +kernel
theorem r_abc_18 : S8.start.run KR (Wt L_abc) 18 = ⟨3271285201, 567974555, 2969183118, 3227803614, 2221859924, 2150900380, 123276749, 194179596⟩ := by
  rw [S8.run, r_abc_17, w_abc_17, k_17]; unfold S8.step; simp only [S8.mk.injEq]; decide +kernel
theorem r_abc_19 : S8.start.run KR (Wt L_abc) 19 = ⟨4269243327, 3271285201, 567974555, 2969183118, 3431569761, 2221859924, 2150900380, 123276749⟩ := by
  rw [S8.run, r_abc_18, w_abc_18, k_18]; unfold S8.step; simp only [S8.mk.injEq]; decide +kernel
theorem r_abc_20 : S8.start.run KR (Wt L_abc) 20 = ⟨3790736435, 4269243327, 3271285201, 567974555, 2959311225, 3431569761, 2221859924, 2150900380⟩ := by
  rw [S8.run, r_abc_19, w_abc_19, k_19]; unfold S8.step; simp only [S8.mk.injEq]; decide +kernel
theorem r_abc_21 : S8.start.run KR (Wt L_abc) 21 = ⟨2647034723, 3790736435, 4269243327, 3271285201, 2329577776, 2959311225, 3431569761, 2221859924⟩ := by
  rw [S8.run, r_abc_20, w_abc_20, k_20]; unfold S8.step; simp only [S8.mk.injEq]; decide +kernel
theorem r_abc_22 : S8.start.run KR (Wt L_abc) 22 = ⟨3261099373, 2647034723, 3790736435, 4269243327, 3777329520, 2329577776, 2959311225, 3431569761⟩ := by
  rw [S8.run, r_abc_21, w_abc_21, k_21]; unfold S8.step; simp only [S8.mk.injEq]; decide +kernel
theorem r_abc_23 : S8.start.run KR (Wt L_abc) 23 = ⟨2812502591, 3261099373, 2647034723, 3790736435, 1240797514, 3777329520, 2329577776, 2959311225⟩ := by
  rw [S8.run, r_abc_22, w_abc_22, k_22]; unfold S8.step; simp only [S8.mk.injEq]; decide +kernel
theorem r_abc_24 : S8.start.run KR (Wt L_abc) 24 = ⟨3319086477, 2812502591, 3261099373, 2647034723, 2856829767, 1240797514, 3777329520, 2329577776⟩ := by
  rw [S8.run, r_abc_23, w_abc_23, k_23]; unfold S8.step; simp only [S8.mk.injEq]; decide +kernel
theorem r_abc_25 : S8.start.run KR (Wt L_abc) 25 = ⟨472655928, 3319086477, 2812502591, 3261099373, 673443729, 2856829767, 1240797514, 3777329520⟩ := by
  rw [S8.run, r_abc_24, w_abc_24, k_24]; unfold S8.step; simp only [S8.mk.injEq]; decide +kernel
theorem r_abc_26 : S8.start.run KR (Wt L_abc) 26 = ⟨3454534525, 472655928, 3319086477, 2812502591, 339230094, 673443729, 2856829767, 1240797514⟩ := by
  rw [S8.run, r_abc_25, w_abc_25, k_25]; unfold S8.step; simp only [S8.mk.injEq]; decide +kernel
theorem r_abc_27 : S8.start.run KR (Wt L_abc) 27 = ⟨3056518332, 3454534525, 472655928, 3319086477, 3343672598, 339230094, 673443729, 2856829767⟩ := by
  rw [S8.run, r_abc_26, w_abc_26, k_26]; unfold S8.step; simp only [S8.mk.injEq]; decide +kernel
theorem r_abc_28 : S8.start.run KR (Wt L_abc) 28 = ⟨2010346792, 3056518332, 3454534525, 472655928, 3992961016, 3343672598, 339230094, 673443729⟩ := by
  rw [S8.run, r_abc_27, w_abc_27, k_27]; unfold S8.step; simp only [S8.mk.injEq]; decide +kernel
theorem r_abc_29 : S8.start.run KR (Wt L_abc) 29 = ⟨909411017, 2010346792, 3056518332, 3454534525, 1628611511, 3992961016, 3343672598, 339230094⟩ := by
  rw [S8.run, r_abc_28, w_abc_28, k_28]; unfold S8.step; simp only [S8.mk.injEq]; decide +kernel
theorem r_abc_30 : S8.start.run KR (Wt L_abc) 30 = ⟨2684750640, 909411017, 2010346792, 3056518332, 2917635127, 1628611511, 3992961016, 3343672598⟩ := by
  rw [S8.run, r_abc_29, w_abc_29, k_29]; unfold S8.step; simp only [S8.mk.injEq]; decide +kernel
theorem r_abc_31 : S8.start.run KR (Wt L_abc) 31 = ⟨3935906338, 2684750640, 909411017, 2010346792, 17410874, 2917635127, 1628611511, 3992961016⟩ := by
  rw [S8.run, r_abc_30, w_abc_30, k_30]; unfold S8.step; simp only [S8.mk.injEq]; decide +kernel
theorem r_abc_32 : S8.start.run KR (Wt L_abc) 32 = ⟨1941126133, 3935906338, 2684750640, 909411017, 3126399250, 17410874, 2917635127, 1628611511⟩ := by
  rw [S8.run, r_abc_31, w_abc_31, k_31]; unfold S8.step; simp only [S8.mk.injEq]; decide +kernel
theorem r_abc_33 : S8.start.run KR (Wt L_abc) 33 = ⟨2564891911, 1941126133, 3935906338, 2684750640, 2631529974, 3126399250, 17410874, 2917635127⟩ := by
  rw [S8.run, r_abc_32, w_abc_32, k_32]; unfold S8.step; simp only [S8.mk.injEq]; decide +kernel
theorem r_abc_34 : S8.start.run KR (Wt L_abc) 34 = ⟨4267724277, 2564891911, 1941126133, 3935906338, 1495571923, 2631529974, 3126399250, 17410874⟩ := by
  rw [S8.run, r_abc_33, w_abc_33, k_33]; unfold S8.step; simp only [S8.mk.injEq]; decide +kernel
theorem r_abc_35 : S8.start.run KR (Wt L_abc) 35 = ⟨2846323596, 4267724277, 2564891911, 1941126133, 140458035, 1495571923, 2631529974, 3126399250⟩ := by
  rw [S8.run, r_abc_34, w_abc_34, k_34]; unfold S8.step; simp only [S8.mk.injEq]; decide +kernel
theorem r_abc_36 : S8.start.run KR (Wt L_abc) 36 = ⟨1705037796, 2846323596, 4267724277, 2564891911, 4105175766, 140458035, 1495571923, 2631529974⟩ := by
  rw [S8.run, r_abc_35, w_abc_35, k_35]; unfold S8.step; simp only [S8.mk.injEq]; decide +kernel
theorem r_abc_37 : S8.start.run KR (Wt L_abc) 37 = ⟨1101421745, 1705037796, 2846323596, 4267724277, 124953195, 4105175766, 140458035, 1495571923⟩ := by
  rw [S8.run, r_abc_36, w_abc_36, k_36]; unfold S8.step; simp only [S8.mk.injEq]; decide +kernel
theorem r_abc_38 : S8.start.run KR (Wt L_abc) 38 = ⟨887035396, 1101421745, 1705037796, 2846323596, 2768741693, 124953195, 4105175766, 140458035⟩ := by
  rw [S8.run, r_abc_37, w_abc_37, k_37]; unfold S8.step; simp only [S8.mk.injEq]; decide +kernel
theorem r_abc_39 : S8.start.run KR (Wt L_abc) 39 = ⟨1841658506, 887035396, 1101421745, 1705037796, 4034403272, 2768741693, 124953195, 4105175766⟩ := by
  rw [S8.run, r_abc_38, w_abc_38, k_38]; unfold S8.step; simp only [S8.mk.injEq]; decide +kernel
theorem r_abc_40 : S8.start.run KR (Wt L_abc) 40 = ⟨2045405306, 1841658506, 887035396, 1101421745, 519815328, 4034403272, 2768741693, 124953195⟩ := by
  rw [S8.run, r_abc_39, w_abc_39, k_39]; unfold S8.step; simp only [S8.mk.injEq]; decide +kernel
theorem r_abc_41 : S8.start.run KR (Wt L_abc) 41 = ⟨3597076326, 2045405306, 1841658506, 887035396, 641019235, 519815328, 4034403272, 2768741693⟩ := by
  rw [S8.run, r_abc_40, w_abc_40, k_40]; unfold S8.step; simp only [S8.mk.injEq]; decide +kernel
theorem r_abc_42 : S8.start.run KR (Wt L_abc) 42 = ⟨3745932591, 3597076326, 2045405306, 1841658506, 2206934801, 641019235, 519815328, 4034403272⟩ := by
  rw [S8.run, r_abc_41, w_abc_41, k_41]; unfold S8.step; simp only [S8.mk.injEq]; decide +kernel
theorem r_abc_43 : S8.start.run KR (Wt L_abc) 43 = ⟨397020670, 3745932591, 3597076326, 2045405306, 3737995029, 2206934801, 641019235, 519815328⟩ := by
  rw [S8.run, r_abc_42, w_abc_42, k_42]; unfold S8.step; simp only [S8.mk.injEq]; decide +kernel
theorem r_abc_44 : S8.start.run KR (Wt L_abc) 44 = ⟨2638983059, 397020670, 3745932591, 3597076326, 4255271982, 3737995029, 2206934801, 641019235⟩ := by
  rw [S8.run, r_abc_43, w_abc_43, k_43]; unfold S8.step; simp only [S8.mk.injEq]; decide +kernel
theorem r_abc_45 : S8.start.run KR (Wt L_abc) 45 = ⟨643991573, 2638983059, 397020670, 3745932591, 2819559920, 4255271982, 3737995029, 2206934801⟩ := by
  rw [S8.run, r_abc_44, w_abc_44, k_44]; unfold S8.step; simp only [S8.mk.injEq]; decide +kernel
theorem r_abc_46 : S8.start.run KR (Wt L_abc) 46 = ⟨1923828625, 643991573, 2638983059, 397020670, 3077922209, 2819559920, 4255271982, 3737995029⟩ := by
  rw [S8.run, r_abc_45, w_abc_45, k_45]; unfold S8.step; simp only [S8.mk.injEq]; decide +kernel
theorem r_abc_47 : S8.start.run KR (Wt L_abc) 47 = ⟨2706117808, 1923828625, 643991573, 2638983059, 3581645993, 3077922209, 2819559920, 4255271982⟩ := by
  rw [S8.run, r_abc_46, w_abc_46, k_46]; unfold S8.step; simp only [S8.mk.injEq]; decide +kernel
theorem r_abc_48 : S8.start.run KR (Wt L_abc) 48 = ⟨1098003085, 2706117808, 1923828625, 643991573, 4274981830, 3581645993, 3077922209, 2819559920⟩ := by
  rw [S8.run, r_abc_47, w_abc_47, k_47]; unfold S8.step; simp only [S8.mk.injEq]; decide +kernel
theorem r_abc_49 : S8.start.run KR (Wt L_abc) 49 = ⟨91585771, 1098003085, 2706117808, 1923828625, 3178315832, 4274981830, 3581645993, 3077922209⟩ := by
  rw [S8.run, r_abc_48, w_abc_48, k_48]; unfold S8.step; simp only [S8.mk.injEq]; decide +kernel
theorem r_abc_50 : S8.start.run KR (Wt L_abc) 50 = ⟨4045142696, 91585771, 1098003085, 2706117808, 1851537676, 3178315832, 4274981830, 3581645993⟩ := by
  rw [S8.run, r_abc_49, w_abc_49, k_49]; unfold S8.step; simp only [S8.mk.injEq]; decide +kernel
theorem r_abc_51 : S8.start.run KR (Wt L_abc) 51 = ⟨2047150241, 4045142696, 91585771, 1098003085, 1391578359, 1851537676, 3178315832, 4274981830⟩ := by
  rw [S8.run, r_abc_50, w_abc_50, k_50]; unfold S8.step; simp only [S8.mk.injEq]; decide +kernel
theorem r_abc_52 : S8.start.run KR (Wt L_abc) 52 = ⟨2288941602, 2047150241, 4045142696, 91585771, 1227037726, 1391578359, 1851537676, 3178315832⟩ := by
  rw [S8.run, r_abc_51, w_abc_51, k_51]; unfold S8.step; simp only [S8.mk.injEq]; decide +kernel
theorem r_abc_53 : S8.start.run KR (Wt L_abc) 53 = ⟨270520975, 2288941602, 2047150241, 4045142696, 1386118400, 1227037726, 1391578359, 1851537676⟩ := by
  rw [S8.run, r_abc_52, w_abc_52, k_52]; unfold S8.step; simp only [S8.mk.injEq]; decide +kernel
theorem r_abc_54 : S8.start.run KR (Wt L_abc) 54 = ⟨4117770203, 270520975, 2288941602, 2047150241, 2672265155, 1386118400, 1227037726, 1391578359⟩ := by
  rw [S8.run, r_abc_53, w_abc_53, k_53]; unfold S8.step; simp only [S8.mk.injEq]; decide +kernel
theorem r_abc_55 : S8.start.run KR (Wt L_abc) 55 = ⟨1053056219, 4117770203, 270520975, 2288941602, 3842906959, 2672265155, 1386118400, 1227037726⟩ := by
  rw [S8.run, r_abc_54, w_abc_54, k_54]; unfold S8.step; simp only [S8.mk.injEq]; decide +kernel
theorem r_abc_56 : S8.start.run KR (Wt L_abc) 56 = ⟨952932627, 1053056219, 4117770203, 270520975, 1422599787, 3842906959, 2672265155, 1386118400⟩ := by
  rw [S8.run, r_abc_55, w_abc_55, k_55]; unfold S8.step; simp only [S8.mk.injEq]; decide +kernel
theorem r_abc_57 : S8.start.run KR (Wt L_abc) 57 = ⟨4241590395, 952932627, 1053056219, 4117770203, 2606665836, 1422599787, 3842906959, 2672265155⟩ := by
  rw [S8.run, r_abc_56, w_abc_56, k_56]; unfold S8.step; simp only [S8.mk.injEq]; decide +kernel
theorem r_abc_58 : S8.start.run KR (Wt L_abc) 58 = ⟨3227702383, 4241590395, 952932627, 1053056219, 2118385806, 2606665836, 1422599787, 3842906959⟩ := by
  rw [S8.run, r_abc_57, w_abc_57, k_57]; unfold S8.step; simp only [S8.mk.injEq]; decide +kernel
theorem r_abc_59 : S8.start.run KR (Wt L_abc) 59 = ⟨4290184306, 3227702383, 4241590395, 952932627, 1837350854, 2118385806, 2606665836, 1422599787⟩ := by
  rw [S8.run, r_abc_58, w_abc_58, k_58]; unfold S8.step; simp only [S8.mk.injEq]; decide +kernel
theorem r_abc_60 : S8.start.run KR (Wt L_abc) 60 = ⟨3064893439, 4290184306, 3227702383, 4241590395, 2988158269, 1837350854, 2118385806, 2606665836⟩ := by
  rw [S8.run, r_abc_59, w_abc_59, k_59]; unfold S8.step; simp only [S8.mk.injEq]; decide +kernel
theorem r_abc_61 : S8.start.run KR (Wt L_abc) 61 = ⟨3093179625, 3064893439, 4290184306, 3227702383, 2518632596, 2988158269, 1837350854, 2118385806⟩ := by
  rw [S8.run, r_abc_60, w_abc_60, k_60]; unfold S8.step; simp only [S8.mk.injEq]; decide +kernel
theorem r_abc_62 : S8.start.run KR (Wt L_abc) 62 = ⟨80891244, 3093179625, 3064893439, 4290184306, 2492278198, 2518632596, 2988158269, 1837350854⟩ := by
  rw [S8.run, r_abc_61, w_abc_61, k_61]; unfold S8.step; simp only [S8.mk.injEq]; decide +kernel
theorem r_abc_63 : S8.start.run KR (Wt L_abc) 63 = ⟨3550093669, 80891244, 3093179625, 3064893439, 4212265488, 2492278198, 2518632596, 2988158269⟩ := by
  rw [S8.run, r_abc_62, w_abc_62, k_62]; unfold S8.step; simp only [S8.mk.injEq]; decide +kernel
theorem r_abc_64 : S8.start.run KR (Wt L_abc) 64 = ⟨1349398616, 3550093669, 80891244, 3093179625, 1593118500, 4212265488, 2492278198, 2518632596⟩ := by
  rw [S8.run, r_abc_63, w_abc_63, k_63]; unfold S8.step; simp only [S8.mk.injEq]; decide +kernel
theorem of_abc : ofS KR [97, 98, 99] = ⟨3128432319, 2399260650, 1094795486, 1571693091, 2953011619, 2518121116, 3021012833, 4060091821⟩ := by
  unfold ofS
  rw [pad_abc]
  show (S8.start.many KR L_abc 0).block KR ((L_abc.drop (64 * 0)).take 64) = _
  have e : (L_abc.drop (64 * 0)).take 64 = L_abc := by decide +kernel
  rw [e]
  show S8.start.add (S8.start.run KR (Wt L_abc) 64) = _
  rw [r_abc_64]; unfold S8.add; simp only [S8.mk.injEq]; decide +kernel
theorem hex_abc : strOfNums (hx (dbl (ofS KR [97, 98, 99]))) = ByteArray.mk #[98, 97, 55, 56, 49, 54, 98, 102, 56, 102, 48, 49, 99, 102, 101, 97, 52, 49, 52, 49, 52, 48, 100, 101, 53, 100, 97, 101, 50, 50, 50, 51, 98, 48, 48, 51, 54, 49, 97, 51, 57, 54, 49, 55, 55, 97, 57, 99, 98, 52, 49, 48, 102, 102, 54, 49, 102, 50, 48, 48, 49, 53, 97, 100] := by
  rw [of_abc]; decide +kernel
def L_nil : List Int := [128, 0, 0, 0, 0, 0, 0, 0, 0, 0, 0, 0, 0, 0, 0, 0, 0, 0, 0, 0, 0, 0, 0, 0, 0, 0, 0, 0, 0, 0, 0, 0, 0, 0, 0, 0, 0, 0, 0, 0, 0, 0, 0, 0, 0, 0, 0, 0, 0, 0, 0, 0, 0, 0, 0, 0, 0, 0, 0, 0, 0, 0, 0, 0]
theorem pad_nil : padS [] = L_nil := by decide +kernel
theorem w_nil_0 : Wt L_nil 0 = 2147483648 := (Wt_lo (by omega)).trans (by decide +kernel)
theorem w_nil_1 : Wt L_nil 1 = 0 := (Wt_lo (by omega)).trans (by decide +kernel)
theorem w_nil_2 : Wt L_nil 2 = 0 := (Wt_lo (by omega)).trans (by decide +kernel)
theorem w_nil_3 : Wt L_nil 3 = 0 := (Wt_lo (by omega)).trans (by decide +kernel)
theorem w_nil_4 : Wt L_nil 4 = 0 := (Wt_lo (by omega)).trans (by decide +kernel)
theorem w_nil_5 : Wt L_nil 5 = 0 := (Wt_lo (by omega)).trans (by decide +kernel)
theorem w_nil_6 : Wt L_nil 6 = 0 := (Wt_lo (by omega)).trans (by decide +kernel)
theorem w_nil_7 : Wt L_nil 7 = 0 := (Wt_lo (by omega)).trans (by decide +kernel)
theorem w_nil_8 : Wt L_nil 8 = 0 := (Wt_lo (by omega)).trans (by decide +kernel)
theorem w_nil_9 : Wt L_nil 9 = 0 := (Wt_lo (by omega)).trans (by decide +kernel)
theorem w_nil_10 : Wt L_nil 10 = 0 := (Wt_lo (by omega)).trans (by decide +kernel)
theorem w_nil_11 : Wt L_nil 11 = 0 := (Wt_lo (by omega)).trans (by decide +kernel)
theorem w_nil_12 : Wt L_nil 12 = 0 := (Wt_lo (by omega)).trans (by decide +kernel)
theorem w_nil_13 : Wt L_nil 13 = 0 := (Wt_lo (by omega)).trans (by decide +kernel)
theorem w_nil_14 : Wt L_nil 14 = 0 := (Wt_lo (by omega)).trans (by decide +kernel)
theorem w_nil_15 : Wt L_nil 15 = 0 := (Wt_lo (by omega)).trans (by decide +kernel)
theorem w_nil_16 : Wt L_nil 16 = 2147483648 := (Wt_hi (by omega)).trans (by show wn (Wt L_nil 14) (Wt L_nil 1) (Wt L_nil 9) (Wt L_nil 0) = _; rw [w_nil_14, w_nil_1, w_nil_9, w_nil_0]; decide +kernel)
theorem w_nil_17 : Wt L_nil 17 = 0 := (Wt_hi (by omega)).trans (by show wn (Wt L_nil 15) (Wt L_nil 2) (Wt L_nil 10) (Wt L_nil 1) = _; rw [w_nil_15, w_nil_2, w_nil_10, w_nil_1]; decide +kernel)
theorem w_nil_18 : Wt L_nil 18 = 2117632 := (Wt_hi (by omega)).trans (by show wn (Wt L_nil 16) (Wt L_nil 3) (Wt L_nil 11) (Wt L_nil 2) = _; rw [w_nil_16, w_nil_3, w_nil_11, w_nil_2]; decide +kernel)
theorem w_nil_19 : Wt L_nil 19 = 0 := (Wt_hi (by omega)).trans (by show wn (Wt L_nil 17) (Wt L_nil 4) (Wt L_nil 12) (Wt L_nil 3) = _; rw [w_nil_17, w_nil_4, w_nil_12, w_nil_3]; decide +kernel)
theorem w_nil_20 : Wt L_nil 20 = 570427392 := (Wt_hi (by omega)).trans (by show wn (Wt L_nil 18) (Wt L_nil 5) (Wt L_nil 13) (Wt L_nil 4) = _; rw [w_nil_18, w_nil_5, w_nil_13, w_nil_4]; decide +kernel)
theorem w_nil_21 : Wt L_nil 21 = 0 := (Wt_hi (by omega)).trans (by show wn (Wt L_nil 19) (Wt L_nil 6) (Wt L_nil 14) (Wt L_nil 5) = _; rw [w_nil_19, w_nil_6, w_nil_14, w_nil_5]; decide +kernel)
theorem w_nil_22 : Wt L_nil 22 = 84448578 := (Wt_hi (by omega)).trans (by show wn (Wt L_nil 20) (Wt L_nil 7) (Wt L_nil 15) (Wt L_nil 6) = _; rw [w_nil_20, w_nil_7, w_nil_15, w_nil_6]; decide +kernel)
theorem w_nil_23 : Wt L_nil 23 = 2147483648 := (Wt_hi (by omega)).trans (by show wn (Wt L_nil 21) (Wt L_nil 8) (Wt L_nil 16) (Wt L_nil 7) = _; rw [w_nil_21, w_nil_8, w_nil_16, w_nil_7]; decide +kernel)
theorem w_nil_24 : Wt L_nil 24 = 1476919296 := (Wt_hi (by omega)).trans (by show wn (Wt L_nil 22) (Wt L_nil 9) (Wt L_nil 17) (Wt L_nil 8) = _; rw [w_nil_22, w_nil_9, w_nil_17, w_nil_8]; decide +kernel)
theorem w_nil_25 : Wt L_nil 25 = 4235264 := (Wt_hi (by omega)).trans (by show wn (Wt L_nil 23) (Wt L_nil 10) (Wt L_nil 18) (Wt L_nil 9) = _; rw [w_nil_23, w_nil_10, w_nil_18, w_nil_9]; decide +kernel)
theorem w_nil_26 : Wt L_nil 26 = 1451269 := (Wt_hi (by omega)).trans (by show wn (Wt L_nil 24) (Wt L_nil 11) (Wt L_nil 19) (Wt L_nil 10) = _; rw [w_nil_24, w_nil_11, w_nil_19, w_nil_10]; decide +kernel)
theorem w_nil_27 : Wt L_nil 27 = 1711282176 := (Wt_hi (by omega)).trans (by show wn (Wt L_nil 25) (Wt L_nil 12) (Wt L_nil 20) (Wt L_nil 11) = _; rw [w_nil_25, w_nil_12, w_nil_20, w_nil_11]; decide +kernel)
theorem w_nil_28 : Wt L_nil 28 = 3592562048 := (Wt_hi (by omega)).trans (by show wn (Wt L_nil 26) (Wt L_nil 13) (Wt L_nil 21) (Wt L_nil 12) = _; rw [w_nil_26, w_nil_13, w_nil_21, w_nil_12]; decide +kernel)
theorem w_nil_29 : Wt L_nil 29 = 337794312 := (Wt_hi (by omega)).trans (by show wn (Wt L_nil 27) (Wt L_nil 14) (Wt L_nil 22) (Wt L_nil 13) = _; rw [w_nil_27, w_nil_14, w_nil_22, w_nil_13]; decide +kernel)
theorem w_nil_30 : Wt L_nil 30 = 3594910044 := (Wt_hi (by omega)).trans (by show wn (Wt L_nil 28) (Wt L_nil 15) (Wt L_nil 23) (Wt L_nil 14) = _; rw [w_nil_28, w_nil_15, w_nil_23, w_nil_14]; decide +kernel)
theorem w_nil_31 : Wt L_nil 31 = 3374850048 := (Wt_hi (by omega)).trans (by show wn (Wt L_nil 29) (Wt L_nil 16) (Wt L_nil 24) (Wt L_nil 15) = _; rw [w_nil_29, w_nil_16, w_nil_24, w_nil_15]; decide +kernel)
theorem w_nil_32 : Wt L_nil 32 = 3287351444 := (Wt_hi (by omega)).trans (by show wn (Wt L_nil 30) (Wt L_nil 17) (Wt L_nil 25) (Wt L_nil 16) = _; rw [w_nil_30, w_nil_17, w_nil_25, w_nil_16]; decide +kernel)
theorem w_nil_33 : Wt L_nil 33 = 676112230 := (Wt_hi (by omega)).trans (by show wn (Wt L_nil 31) (Wt L_nil 18) (Wt L_nil 26) (Wt L_nil 17) = _; rw [w_nil_31, w_nil_18, w_nil_26, w_nil_17]; decide +kernel)
theorem w_nil_34 : Wt L_nil 34 = 109604294 := (Wt_hi (by omega)).trans (by show wn (Wt L_nil 32) (Wt L_nil 19) (Wt L_nil 27) (Wt L_nil 18) = _; rw [w_nil_32, w_nil_19, w_nil_27, w_nil_18]; decide +kernel)
theorem w_nil_35 : Wt L_nil 35 = 2742808854 := (Wt_hi (by omega)).trans (by show wn (Wt L_nil 33) (Wt L_nil 20) (Wt L_nil 28) (Wt L_nil 19) = _; rw [w_nil_33, w_nil_20, w_nil_28, w_nil_19]; decide +kernel)
theorem w_nil_36 : Wt L_nil 36 = 1904000662 := (Wt_hi (by omega)).trans (by show wn (Wt L_nil 34) (Wt L_nil 21) (Wt L_nil 29) (Wt L_nil 20) = _; rw [w_nil_34, w_nil_21, w_nil_29, w_nil_20]; decide +kernel)
theorem w_nil_37 : Wt L_nil 37 = 4274181962 := (Wt_hi (by omega)).trans (by show wn (Wt L_nil 35) (Wt L_nil 22) (Wt L_nil 30) (Wt L_nil 21) = _; rw [w_nil_35, w_nil_22, w_nil_30, w_nil_21]; decide +kernel)
theorem w_nil_38 : Wt L_nil 38 = 2813755136 := (Wt_hi (by omega)).trans (by show wn (Wt L_nil 36) (Wt L_nil 23) (Wt L_nil 31) (Wt L_nil 22) = _; rw [w_nil_36, w_nil_23, w_nil_31, w_nil_22]; decide +kernel)
theorem w_nil_39 : Wt L_nil 39 = 2165675682 := (Wt_hi (by omega)).trans (by show wn (Wt L_nil 37) (Wt L_nil 24) (Wt L_nil 32) (Wt L_nil 23) = _; rw [w_nil_37, w_nil_24, w_nil_32, w_nil_23]; decide +kernel)
theorem w_nil_40 : Wt L_nil 40 = 2561075048 := (Wt_hi (by omega)).trans (by show wn (Wt L_nil 38) (Wt L_nil 25) (Wt L_nil 33) (Wt L_nil 24) = _; rw [w_nil_38, w_nil_25, w_nil_33, w_nil_24]; decide +kernel)
theorem w_nil_41 : Wt L_nil 41 = 62000258 := (Wt_hi (by omega)).trans (by show wn (Wt L_nil 39) (Wt L_nil 26) (Wt L_nil 34) (Wt L_nil 25) = _; rw [w_nil_39, w_nil_26, w_nil_34, w_nil_25]; decide +kernel)
theorem w_nil_42 : Wt L_nil 42 = 1562224585 := (Wt_hi (by omega)).trans (by show wn (Wt L_nil 40) (Wt L_nil 27) (Wt L_nil 35) (Wt L_nil 26) = _; rw [w_nil_40, w_nil_27, w_nil_35, w_nil_26]; decide +kernel)
theorem w_nil_43 : Wt L_nil 43 = 2975250741 := (Wt_hi (by omega)).trans (by show wn (Wt L_nil 41) (Wt L_nil 28) (Wt L_nil 36) (Wt L_nil 27) = _; rw [w_nil_41, w_nil_28, w_nil_36, w_nil_27]; decide +kernel)
theorem w_nil_44 : Wt L_nil 44 = 3286092305 := (Wt_hi (by omega)).trans (by show wn (Wt L_nil 42) (Wt L_nil 29) (Wt L_nil 37) (Wt L_nil 28) = _; rw [w_nil_42, w_nil_29, w_nil_37, w_nil_28]; decide +kernel)
theorem w_nil_45 : Wt L_nil 45 = 614207615 := (Wt_hi (by omega)).trans (by show wn (Wt L_nil 43) (Wt L_nil 30) (Wt L_nil 38) (Wt L_nil 29) = _; rw [w_nil_43, w_nil_30, w_nil_38, w_nil_29]; decide +kernel)
theorem w_nil_46 : Wt L_nil 46 = 3297584367 := (Wt_hi (by omega)).trans (by show wn (Wt L_nil 44) (Wt L_nil 31) (Wt L_nil 39) (Wt L_nil 30) = _; rw [w_nil_44, w_nil_31, w_nil_39, w_nil_30]; decide +kernel)
theorem w_nil_47 : Wt L_nil 47 = 1575308336 := (Wt_hi (by omega)).trans (by show wn (Wt L_nil 45) (Wt L_nil 32) (Wt L_nil 40) (Wt L_nil 31) = _; rw [w_nil_45, w_nil_32, w_nil_40, w_nil_31]; decide +kernel)
theorem w_nil_48 : Wt L_nil 48 = 3741240933 := (Wt_hi (by omega)).trans (by show wn (Wt L_nil 46) (Wt L_nil 33) (Wt L_nil 41) (Wt L_nil 32) = _; rw [w_nil_46, w_nil_33, w_nil_41, w_nil_32]; decide +kernel)
theorem w_nil_49 : Wt L_nil 49 = 748767245 := (Wt_hi (by omega)).trans (by show wn (Wt L_nil 47) (Wt L_nil 34) (Wt L_nil 42) (Wt L_nil 33) = _; rw [w_nil_47, w_nil_34, w_nil_42, w_nil_33]; decide +kernel)
theorem w_nil_50 : Wt L_nil 50 = 1008022316 := (Wt_hi (by omega)).trans (by show wn (Wt L_nil 48) (Wt L_nil 35) (Wt L_nil 43) (Wt L_nil 34) = _; rw [w_nil_48, w_nil_35, w_nil_43, w_nil_34]; decide +kernel)
theorem w_nil_51 : Wt L_nil 51 = 30329261 := (Wt_hi (by omega)).trans (by show wn (Wt L_nil 49) (Wt L_nil 36) (Wt L_nil 44) (Wt L_nil 35) = _; rw [w_nil_49, w_nil_36, w_nil_44, w_nil_35]; decide +kernel)
theorem w_nil_52 : Wt L_nil 52 = 369937616 := (Wt_hi (by omega)).trans (by show wn (Wt L_nil 50) (Wt L_nil 37) (Wt L_nil 45) (Wt L_nil 36) = _; rw [w_nil_50, w_nil_37, w_nil_45, w_nil_36]; decide +kernel)
theorem w_nil_53 : Wt L_nil 53 = 195877528 := (Wt_hi (by omega)).trans (by show wn (Wt L_nil 51) (Wt L_nil 38) (Wt L_nil 46) (Wt L_nil 37) = _; rw [w_nil_51, w_nil_38, w_nil_46, w_nil_37]; decide +kernel)
theorem w_nil_54 : Wt L_nil 54 = 907775968 := (Wt_hi (by omega)).trans (by show wn (Wt L_nil 52) (Wt L_nil 39) (Wt L_nil 47) (Wt L_nil 38) = _; rw [w_nil_52, w_nil_39, w_nil_47, w_nil_38]; decide +kernel)
theorem w_nil_55 : Wt L_nil 55 = 3526495142 := (Wt_hi (by omega)).trans (by show wn (Wt L_nil 53) (Wt L_nil 40) (Wt L_nil 48) (Wt L_nil 39) = _; rw [w_nil_53, w_nil_40, w_nil_48, w_nil_39]; decide +kernel)
theorem w_nil_56 : Wt L_nil 56 = 43741191 := (Wt_hi (by omega)).trans (by show wn (Wt L_nil 54) (Wt L_nil 41) (Wt L_nil 49) (Wt L_nil 40) = _; rw [w_nil_54, w_nil_41, w_nil_49, w_nil_40]; decide +kernel)
theorem w_nil_57 : Wt L_nil 57 = 1967544444 := (Wt_hi (by omega)).trans (by show wn (Wt L_nil 55) (Wt L_nil 42) (Wt L_nil 50) (Wt L_nil 41) = _; rw [w_nil_55, w_nil_42, w_nil_50, w_nil_41]; decide +kernel)
theorem w_nil_58 : Wt L_nil 58 = 133517113 := (Wt_hi (by omega)).trans (by show wn (Wt L_nil 56) (Wt L_nil 43) (Wt L_nil 51) (Wt L_nil 42) = _; rw [w_nil_56, w_nil_43, w_nil_51, w_nil_42]; decide +kernel)
theorem w_nil_59 : Wt L_nil 59 = 4161330627 := (Wt_hi (by omega)).trans (by show wn (Wt L_nil 57) (Wt L_nil 44) (Wt L_nil 52) (Wt L_nil 43) = _; rw [w_nil_57, w_nil_44, w_nil_52, w_nil_43]; decide +kernel)
theorem w_nil_60 : Wt L_nil 60 = 3704256008 := (Wt_hi (by omega)).trans (by show wn (Wt L_nil 58) (Wt L_nil 45) (Wt L_nil 53) (Wt L_nil 44) = _; rw [w_nil_58, w_nil_45, w_nil_53, w_nil_44]; decide +kernel)
theorem w_nil_61 : Wt L_nil 61 = 1581412744 := (Wt_hi (by omega)).trans (by show wn (Wt L_nil 59) (Wt L_nil 46) (Wt L_nil 54) (Wt L_nil 45) = _; rw [w_nil_59, w_nil_46, w_nil_54, w_nil_45]; decide +kernel)
theorem w_nil_62 : Wt L_nil 62 = 1153231965 := (Wt_hi (by omega)).trans (by show wn (Wt L_nil 60) (Wt L_nil 47) (Wt L_nil 55) (Wt L_nil 46) = _; rw [w_nil_60, w_nil_47, w_nil_55, w_nil_46]; decide +kernel)
theorem w_nil_63 : Wt L_nil 63 = 996066459 := (Wt_hi (by omega)).trans (by show wn (Wt L_nil 61) (Wt L_nil 48) (Wt L_nil 56) (Wt L_nil 47) = _; rw [w_nil_61, w_nil_48, w_nil_56, w_nil_47]; decide +kernel)
theorem r_nil_0 : S8.start.run KR (Wt L_nil) 0 = ⟨1779033703, 3144134277, 1013904242, 2773480762, 1359893119, 2600822924, 528734635, 1541459225⟩ := rfl
theorem r_nil_1 : S8.start.run KR (Wt L_nil) 1 = ⟨2080933965, 1779033703, 3144134277, 1013904242, 415752866, 1359893119, 2600822924, 528734635⟩ := by
  rw [S8.run, r_nil_0, w_nil_0, k_0]; unfold S8.step; simp only [S8.mk.injEq]; decide +kernel
theorem r_nil_2 : S8.start.run KR (Wt L_nil) 2 = ⟨2632279248, 2080933965, 1779033703, 3144134277, 536982102, 415752866, 1359893119, 2600822924⟩ := by
  rw [S8.run, r_nil_1, w_nil_1, k_1]; unfold S8.step; simp only [S8.mk.injEq]; decide +kernel
theorem r_nil_3 : S8.start.run KR (Wt L_nil) 3 = ⟨3299628326, 2632279248, 2080933965, 1779033703, 1876632314, 536982102, 415752866, 1359893119⟩ := by
  rw [S8.run, r_nil_2, w_nil_2, k_2]; unfold S8.step; simp only [S8.mk.injEq]; decide +kernel
theorem r_nil_4 : S8.start.run KR (Wt L_nil) 4 = ⟨1277422283, 3299628326, 2632279248, 2080933965, 808968629, 1876632314, 536982102, 415752866⟩ := by
  rw [S8.run, r_nil_3, w_nil_3, k_3]; unfold S8.step; simp only [S8.mk.injEq]; decide +kernel
theorem r_nil_5 : S8.start.run KR (Wt L_nil) 5 = ⟨1130821424, 1277422283, 3299628326, 2632279248, 3889194014, 808968629, 1876632314, 536982102⟩ := by
  rw [S8.run, r_nil_4, w_nil_4, k_4]; unfold S8.step; simp only [S8.mk.injEq]; decide +kernel
theorem r_nil_6 : S8.start.run KR (Wt L_nil) 6 = ⟨690895682, 1130821424, 1277422283, 3299628326, 1332035834, 3889194014, 808968629, 1876632314⟩ := by
  rw [S8.run, r_nil_5, w_nil_5, k_5]; unfold S8.step; simp only [S8.mk.injEq]; decide +kernel
theorem r_nil_7 : S8.start.run KR (Wt L_nil) 7 = ⟨4028650896, 690895682, 1130821424, 1277422283, 2196627567, 1332035834, 3889194014, 808968629⟩ := by
  rw [S8.run, r_nil_6, w_nil_6, k_6]; unfold S8.step; simp only [S8.mk.injEq]; decide +kernel
theorem r_nil_8 : S8.start.run KR (Wt L_nil) 8 = ⟨2060825014, 4028650896, 690895682, 1130821424, 1408847307, 2196627567, 1332035834, 3889194014⟩ := by
  rw [S8.run, r_nil_7, w_nil_7, k_7]; unfold S8.step; simp only [S8.mk.injEq]; decide +kernel
theorem r_nil_9 : S8.start.run KR (Wt L_nil) 9 = ⟨4113392549, 2060825014, 4028650896, 690895682, 2058339864, 1408847307, 2196627567, 1332035834⟩ := by
  rw [S8.run, r_nil_8, w_nil_8, k_8]; unfold S8.step; simp only [S8.mk.injEq]; decide +kernel
theorem r_nil_10 : S8.start.run KR (Wt L_nil) 10 = ⟨4025007953, 4113392549, 2060825014, 4028650896, 1392976521, 2058339864, 1408847307, 2196627567⟩ := by
  rw [S8.run, r_nil_9, w_nil_9, k_9]; unfold S8.step; simp only [S8.mk.injEq]; decide +kernel
theorem r_nil_11 : S8.start.run KR (Wt L_nil) 11 = ⟨361478433, 4025007953, 4113392549, 2060825014, 3795207118, 1392976521, 2058339864, 1408847307⟩ := by
  rw [S8.run, r_nil_10, w_nil_10, k_10]; unfold S8.step; simp only [S8.mk.injEq]; decide +kernel
theorem r_nil_12 : S8.start.run KR (Wt L_nil) 12 = ⟨4114828352, 361478433, 4025007953, 4113392549, 3621813394, 3795207118, 1392976521, 2058339864⟩ := by
  rw [S8.run, r_nil_11, w_nil_11, k_11]; unfold S8.step; simp only [S8.mk.injEq]; decide +kernel
theorem r_nil_13 : S8.start.run KR (Wt L_nil) 13 = ⟨553833165, 4114828352, 361478433, 4025007953, 3455974994, 3621813394, 3795207118, 1392976521⟩ := by
  rw [S8.run, r_nil_12, w_nil_12, k_12]; unfold S8.step; simp only [S8.mk.injEq]; decide +kernel
theorem r_nil_14 : S8.start.run KR (Wt L_nil) 14 = ⟨1170215847, 553833165, 4114828352, 361478433, 725774998, 3455974994, 3621813394, 3795207118⟩ := by
  rw [S8.run, r_nil_13, w_nil_13, k_13]; unfold S8.step; simp only [S8.mk.injEq]; decide +kernel
theorem r_nil_15 : S8.start.run KR (Wt L_nil) 15 = ⟨3096116699, 1170215847, 553833165, 4114828352, 483372089, 725774998, 3455974994, 3621813394⟩ := by
  rw [S8.run, r_nil_14, w_nil_14, k_14]; unfold S8.step; simp only [S8.mk.injEq]; decide +kernel
theorem r_nil_16 : S8.start.run KR (Wt L_nil) 16 = ⟨3019933109, 3096116699, 1170215847, 553833165, 1555621987, 483372089, 725774998, 3455974994⟩ := by
  rw [S8.run, r_nil_15, w_nil_15, k_15]; unfold S8.step; simp only [S8.mk.injEq]; decide +kernel
theorem r_nil_17 : S8.start.run KR (Wt L_nil) 17 = ⟨1192056138, 3019933109, 3096116699, 1170215847, 1892956839, 1555621987, 483372089, 725774998⟩ := by
  rw [S8.run, r_nil_16, w_nil_16, k_16]; unfold S8.step; simp only [S8.mk.injEq]; decide +kernel
theorem r_nil_18 : S8.start.run KR (Wt L_nil) 18 = ⟨3717831211, 1192056138, 3019933109, 3096116699, 1619825619, 1892956839, 1555621987, 483372089⟩ := by
  rw [S8.run, r_nil_17, w_nil_17, k_17]; unfold S8.step; simp only [S8.mk.injEq]; decide +kernel
theorem r_nil_19 : S8.start.run KR (Wt L_nil) 19 = ⟨812095850, 3717831211, 1192056138, 3019933109, 3550010602, 1619825619, 1892956839, 1555621987⟩ := by
  rw [S8.run, r_nil_18, w_nil_18, k_18]; unfold S8.step; simp only [S8.mk.injEq]; decide +kernel
theorem r_nil_20 : S8.start.run KR (Wt L_nil) 20 = ⟨172493064, 812095850, 3717831211, 1192056138, 2416781228, 3550010602, 1619825619, 1892956839⟩ := by
  rw [S8.run, r_nil_19, w_nil_19, k_19]; unfold S8.step; simp only [S8.mk.injEq]; decide +kernel
theorem r_nil_21 : S8.start.run KR (Wt L_nil) 21 = ⟨1976037592, 172493064, 812095850, 3717831211, 966081741, 2416781228, 3550010602, 1619825619⟩ := by
  rw [S8.run, r_nil_20, w_nil_20, k_20]; unfold S8.step; simp only [S8.mk.injEq]; decide +kernel
theorem r_nil_22 : S8.start.run KR (Wt L_nil) 22 = ⟨2577845017, 1976037592, 172493064, 812095850, 3263666206, 966081741, 2416781228, 3550010602⟩ := by
  rw [S8.run, r_nil_21, w_nil_21, k_21]; unfold S8.step; simp only [S8.mk.injEq]; decide +kernel
theorem r_nil_23 : S8.start.run KR (Wt L_nil) 23 = ⟨1078820948, 2577845017, 1976037592, 172493064, 2976200464, 3263666206, 966081741, 2416781228⟩ := by
  rw [S8.run, r_nil_22, w_nil_22, k_22]; unfold S8.step; simp only [S8.mk.injEq]; decide +kernel
theorem r_nil_24 : S8.start.run KR (Wt L_nil) 24 = ⟨2556161365, 1078820948, 2577845017, 1976037592, 741081741, 2976200464, 3263666206, 966081741⟩ := by
  rw [S8.run, r_nil_23, w_nil_23, k_23]; unfold S8.step; simp only [S8.mk.injEq]; decide +kernel
theorem r_nil_25 : S8.start.run KR (Wt L_nil) 25 = ⟨2062996621, 2556161365, 1078820948, 2577845017, 4116679717, 741081741, 2976200464, 3263666206⟩ := by
  rw [S8.run, r_nil_24, w_nil_24, k_24]; unfold S8.step; simp only [S8.mk.injEq]; decide +kernel
theorem r_nil_26 : S8.start.run KR (Wt L_nil) 26 = ⟨3317175470, 2062996621, 2556161365, 1078820948, 3850028020, 4116679717, 741081741, 2976200464⟩ := by
  rw [S8.run, r_nil_25, w_nil_25, k_25]; unfold S8.step; simp only [S8.mk.injEq]; decide +kernel
theorem r_nil_27 : S8.start.run KR (Wt L_nil) 27 = ⟨747317945, 3317175470, 2062996621, 2556161365, 2677228163, 3850028020, 4116679717, 741081741⟩ := by
  rw [S8.run, r_nil_26, w_nil_26, k_26]; unfold S8.step; simp only [S8.mk.injEq]; decide +kernel
theorem r_nil_28 : S8.start.run KR (Wt L_nil) 28 = ⟨1837942423, 747317945, 3317175470, 2062996621, 1726829818, 2677228163, 3850028020, 4116679717⟩ := by
  rw [S8.run, r_nil_27, w_nil_27, k_27]; unfold S8.step; simp only [S8.mk.injEq]; decide +kernel
theorem r_nil_29 : S8.start.run KR (Wt L_nil) 29 = ⟨1690082844, 1837942423, 747317945, 3317175470, 2506713973, 1726829818, 2677228163, 3850028020⟩ := by
  rw [S8.run, r_nil_28, w_nil_28, k_28]; unfold S8.step; simp only [S8.mk.injEq]; decide +kernel
theorem r_nil_30 : S8.start.run KR (Wt L_nil) 30 = ⟨1926471693, 1690082844, 1837942423, 747317945, 2957685293, 2506713973, 1726829818, 2677228163⟩ := by
  rw [S8.run, r_nil_29, w_nil_29, k_29]; unfold S8.step; simp only [S8.mk.injEq]; decide +kernel
theorem r_nil_31 : S8.start.run KR (Wt L_nil) 31 = ⟨2696613087, 1926471693, 1690082844, 1837942423, 1447716390, 2957685293, 2506713973, 1726829818⟩ := by
  rw [S8.run, r_nil_30, w_nil_30, k_30]; unfold S8.step; simp only [S8.mk.injEq]; decide +kernel
theorem r_nil_32 : S8.start.run KR (Wt L_nil) 32 = ⟨300352095, 2696613087, 1926471693, 1690082844, 3151463532, 1447716390, 2957685293, 2506713973⟩ := by
  rw [S8.run, r_nil_31, w_nil_31, k_31]; unfold S8.step; simp only [S8.mk.injEq]; decide +kernel
theorem r_nil_33 : S8.start.run KR (Wt L_nil) 33 = ⟨3817927606, 300352095, 2696613087, 1926471693, 3436338571, 3151463532, 1447716390, 2957685293⟩ := by
  rw [S8.run, r_nil_32, w_nil_32, k_32]; unfold S8.step; simp only [S8.mk.injEq]; decide +kernel
theorem r_nil_34 : S8.start.run KR (Wt L_nil) 34 = ⟨2705438357, 3817927606, 300352095, 2696613087, 197416927, 3436338571, 3151463532, 1447716390⟩ := by
  rw [S8.run, r_nil_33, w_nil_33, k_33]; unfold S8.step; simp only [S8.mk.injEq]; decide +kernel
theorem r_nil_35 : S8.start.run KR (Wt L_nil) 35 = ⟨1151435175, 2705438357, 3817927606, 300352095, 1769188034, 197416927, 3436338571, 3151463532⟩ := by
  rw [S8.run, r_nil_34, w_nil_34, k_34]; unfold S8.step; simp only [S8.mk.injEq]; decide +kernel
theorem r_nil_36 : S8.start.run KR (Wt L_nil) 36 = ⟨1679812728, 1151435175, 2705438357, 3817927606, 980442793, 1769188034, 197416927, 3436338571⟩ := by
  rw [S8.run, r_nil_35, w_nil_35, k_35]; unfold S8.step; simp only [S8.mk.injEq]; decide +kernel
theorem r_nil_37 : S8.start.run KR (Wt L_nil) 37 = ⟨2694206301, 1679812728, 1151435175, 2705438357, 4206914285, 980442793, 1769188034, 197416927⟩ := by
  rw [S8.run, r_nil_36, w_nil_36, k_36]; unfold S8.step; simp only [S8.mk.injEq]; decide +kernel
theorem r_nil_38 : S8.start.run KR (Wt L_nil) 38 = ⟨1457773646, 2694206301, 1679812728, 1151435175, 3892832895, 4206914285, 980442793, 1769188034⟩ := by
  rw [S8.run, r_nil_37, w_nil_37, k_37]; unfold S8.step; simp only [S8.mk.injEq]; decide +kernel
theorem r_nil_39 : S8.start.run KR (Wt L_nil) 39 = ⟨2656625711, 1457773646, 2694206301, 1679812728, 2242319396, 3892832895, 4206914285, 980442793⟩ := by
  rw [S8.run, r_nil_38, w_nil_38, k_38]; unfold S8.step; simp only [S8.mk.injEq]; decide +kernel
theorem r_nil_40 : S8.start.run KR (Wt L_nil) 40 = ⟨1234768305, 2656625711, 1457773646, 2694206301, 1902882853, 2242319396, 3892832895, 4206914285⟩ := by
  rw [S8.run, r_nil_39, w_nil_39, k_39]; unfold S8.step; simp only [S8.mk.injEq]; decide +kernel
theorem r_nil_41 : S8.start.run KR (Wt L_nil) 41 = ⟨4270245939, 1234768305, 2656625711, 1457773646, 2224585183, 1902882853, 2242319396, 3892832895⟩ := by
  rw [S8.run, r_nil_40, w_nil_40, k_40]; unfold S8.step; simp only [S8.mk.injEq]; decide +kernel
theorem r_nil_42 : S8.start.run KR (Wt L_nil) 42 = ⟨580450446, 4270245939, 1234768305, 2656625711, 4123364073, 2224585183, 1902882853, 2242319396⟩ := by
  rw [S8.run, r_nil_41, w_nil_41, k_41]; unfold S8.step; simp only [S8.mk.injEq]; decide +kernel
theorem r_nil_43 : S8.start.run KR (Wt L_nil) 43 = ⟨3686090155, 580450446, 4270245939, 1234768305, 3762306745, 4123364073, 2224585183, 1902882853⟩ := by
  rw [S8.run, r_nil_42, w_nil_42, k_42]; unfold S8.step; simp only [S8.mk.injEq]; decide +kernel
theorem r_nil_44 : S8.start.run KR (Wt L_nil) 44 = ⟨3907209042, 3686090155, 580450446, 4270245939, 692219050, 3762306745, 4123364073, 2224585183⟩ := by
  rw [S8.run, r_nil_43, w_nil_43, k_43]; unfold S8.step; simp only [S8.mk.injEq]; decide +kernel
theorem r_nil_45 : S8.start.run KR (Wt L_nil) 45 = ⟨2752082644, 3907209042, 3686090155, 580450446, 2855016464, 692219050, 3762306745, 4123364073⟩ := by
  rw [S8.run, r_nil_44, w_nil_44, k_44]; unfold S8.step; simp only [S8.mk.injEq]; decide +kernel
theorem r_nil_46 : S8.start.run KR (Wt L_nil) 46 = ⟨855262251, 2752082644, 3907209042, 3686090155, 3531982457, 2855016464, 692219050, 3762306745⟩ := by
  rw [S8.run, r_nil_45, w_nil_45, k_45]; unfold S8.step; simp only [S8.mk.injEq]; decide +kernel
theorem r_nil_47 : S8.start.run KR (Wt L_nil) 47 = ⟨1419259244, 855262251, 2752082644, 3907209042, 2322236082, 3531982457, 2855016464, 692219050⟩ := by
  rw [S8.run, r_nil_46, w_nil_46, k_46]; unfold S8.step; simp only [S8.mk.injEq]; decide +kernel
theorem r_nil_48 : S8.start.run KR (Wt L_nil) 48 = ⟨911881421, 1419259244, 855262251, 2752082644, 3417569515, 2322236082, 3531982457, 2855016464⟩ := by
  rw [S8.run, r_nil_47, w_nil_47, k_47]; unfold S8.step; simp only [S8.mk.injEq]; decide +kernel
theorem r_nil_49 : S8.start.run KR (Wt L_nil) 49 = ⟨1655188062, 911881421, 1419259244, 855262251, 1286303114, 3417569515, 2322236082, 3531982457⟩ := by
  rw [S8.run, r_nil_48, w_nil_48, k_48]; unfold S8.step; simp only [S8.mk.injEq]; decide +kernel
theorem r_nil_50 : S8.start.run KR (Wt L_nil) 50 = ⟨2543384045, 1655188062, 911881421, 1419259244, 3909789552, 1286303114, 3417569515, 2322236082⟩ := by
  rw [S8.run, r_nil_49, w_nil_49, k_49]; unfold S8.step; simp only [S8.mk.injEq]; decide +kernel
theorem r_nil_51 : S8.start.run KR (Wt L_nil) 51 = ⟨3244542753, 2543384045, 1655188062, 911881421, 906398686, 3909789552, 1286303114, 3417569515⟩ := by
  rw [S8.run, r_nil_50, w_nil_50, k_50]; unfold S8.step; simp only [S8.mk.injEq]; decide +kernel
theorem r_nil_52 : S8.start.run KR (Wt L_nil) 52 = ⟨3579709122, 3244542753, 2543384045, 1655188062, 2710884687, 906398686, 3909789552, 1286303114⟩ := by
  rw [S8.run, r_nil_51, w_nil_51, k_51]; unfold S8.step; simp only [S8.mk.injEq]; decide +kernel
theorem r_nil_53 : S8.start.run KR (Wt L_nil) 53 = ⟨2981272720, 3579709122, 3244542753, 2543384045, 1134943992, 2710884687, 906398686, 3909789552⟩ := by
  rw [S8.run, r_nil_52, w_nil_52, k_52]; unfold S8.step; simp only [S8.mk.injEq]; decide +kernel
theorem r_nil_54 : S8.start.run KR (Wt L_nil) 54 = ⟨974034039, 2981272720, 3579709122, 3244542753, 4254700398, 1134943992, 2710884687, 906398686⟩ := by
  rw [S8.run, r_nil_53, w_nil_53, k_53]; unfold S8.step; simp only [S8.mk.injEq]; decide +kernel
theorem r_nil_55 : S8.start.run KR (Wt L_nil) 55 = ⟨749689034, 974034039, 2981272720, 3579709122, 3850954136, 4254700398, 1134943992, 2710884687⟩ := by
  rw [S8.run, r_nil_54, w_nil_54, k_54]; unfold S8.step; simp only [S8.mk.injEq]; decide +kernel
theorem r_nil_56 : S8.start.run KR (Wt L_nil) 56 = ⟨23298068, 749689034, 974034039, 2981272720, 2918796810, 3850954136, 4254700398, 1134943992⟩ := by
  rw [S8.run, r_nil_55, w_nil_55, k_55]; unfold S8.step; simp only [S8.mk.injEq]; decide +kernel
theorem r_nil_57 : S8.start.run KR (Wt L_nil) 57 = ⟨2126991890, 23298068, 749689034, 974034039, 2035393328, 2918796810, 3850954136, 4254700398⟩ := by
  rw [S8.run, r_nil_56, w_nil_56, k_56]; unfold S8.step; simp only [S8.mk.injEq]; decide +kernel
theorem r_nil_58 : S8.start.run KR (Wt L_nil) 58 = ⟨3891021244, 2126991890, 23298068, 749689034, 3802734300, 2035393328, 2918796810, 3850954136⟩ := by
  rw [S8.run, r_nil_57, w_nil_57, k_57]; unfold S8.step; simp only [S8.mk.injEq]; decide +kernel
theorem r_nil_59 : S8.start.run KR (Wt L_nil) 59 = ⟨3911429062, 3891021244, 2126991890, 23298068, 148956906, 3802734300, 2035393328, 2918796810⟩ := by
  rw [S8.run, r_nil_58, w_nil_58, k_58]; unfold S8.step; simp only [S8.mk.injEq]; decide +kernel
theorem r_nil_60 : S8.start.run KR (Wt L_nil) 60 = ⟨71572494, 3911429062, 3891021244, 2126991890, 2867830852, 148956906, 3802734300, 2035393328⟩ := by
  rw [S8.run, r_nil_59, w_nil_59, k_59]; unfold S8.step; simp only [S8.mk.injEq]; decide +kernel
theorem r_nil_61 : S8.start.run KR (Wt L_nil) 61 = ⟨4095722474, 71572494, 3911429062, 3891021244, 477227836, 2867830852, 148956906, 3802734300⟩ := by
  rw [S8.run, r_nil_60, w_nil_60, k_60]; unfold S8.step; simp only [S8.mk.injEq]; decide +kernel
theorem r_nil_62 : S8.start.run KR (Wt L_nil) 62 = ⟨1586299222, 4095722474, 71572494, 3911429062, 2232532848, 477227836, 2867830852, 148956906⟩ := by
  rw [S8.run, r_nil_61, w_nil_61, k_61]; unfold S8.step; simp only [S8.mk.injEq]; decide +kernel
theorem r_nil_63 : S8.start.run KR (Wt L_nil) 63 = ⟨3717492111, 1586299222, 4095722474, 71572494, 3382061760, 2232532848, 477227836, 2867830852⟩ := by
  rw [S8.run, r_nil_62, w_nil_62, k_62]; unfold S8.step; simp only [S8.mk.injEq]; decide +kernel
theorem r_nil_64 : S8.start.run KR (Wt L_nil) 64 = ⟨2040978907, 3717492111, 1586299222, 4095722474, 3600805733, 3382061760, 2232532848, 477227836⟩ := by
  rw [S8.run, r_nil_63, w_nil_63, k_63]; unfold S8.step; simp only [S8.mk.injEq]; decide +kernel
theorem of_nil : ofS KR [] = ⟨3820012610, 2566659092, 2600203464, 2574235940, 665731556, 1687917388, 2761267483, 2018687061⟩ := by
  unfold ofS
  rw [pad_nil]
  show (S8.start.many KR L_nil 0).block KR ((L_nil.drop (64 * 0)).take 64) = _
  have e : (L_nil.drop (64 * 0)).take 64 = L_nil := by decide +kernel
  rw [e]
  show S8.start.add (S8.start.run KR (Wt L_nil) 64) = _
  rw [r_nil_64]; unfold S8.add; simp only [S8.mk.injEq]; decide +kernel
theorem hex_nil : strOfNums (hx (dbl (ofS KR []))) = ByteArray.mk #[101, 51, 98, 48, 99, 52, 52, 50, 57, 56, 102, 99, 49, 99, 49, 52, 57, 97, 102, 98, 102, 52, 99, 56, 57, 57, 54, 102, 98, 57, 50, 52, 50, 55, 97, 101, 52, 49, 101, 52, 54, 52, 57, 98, 57, 51, 52, 99, 97, 52, 57, 53, 57, 57, 49, 98, 55, 56, 53, 50, 98, 56, 53, 53] := by
  rw [of_nil]; decide +kernel
theorem crc_ex : crcS (nats [49, 50, 51, 52, 53, 54, 55, 56, 57]) = 3421780262 := by decide +kernel
theorem uh_one : uhx (sb (ByteArray.mk #[48, 48, 102, 102])) = some [0, 255] := by decide +kernel
theorem uh_two : uhx (sb (ByteArray.mk #[48, 48, 102, 70])) = none := by decide +kernel
/-! a digest is like itself -/
theorem eqItems_same {d : Nat} {xs : Array Value} {w : World} : ∀ (is : List Nat), (∀ i ∈ is, ∃ n, xs[i]? = some (.int .u8 n)) → (Op.eqItems (d + 1) 5 (Try.prog.cellsOf 5) xs xs is).run Try.prog w = .ok true w
  | [], _ => rfl
  | i :: is, h => by
    obtain ⟨n, hn⟩ := h i (List.mem_cons_self ..)
    have hc : Try.prog.cellsOf 5 = 1 := by kernel_rfl
    have hp : (part 5 xs (i * Try.prog.cellsOf 5)).run Try.prog w = .ok (.int .u8 n) w := by
      rw [hc, Nat.mul_one]
      simp [part, Try.isAgg5, hn]
    have he := run_equalIn_int (P := Try.prog) w d 5 .u8 .u8 n n Try.underlying5
    have ih := eqItems_same (d := d) (xs := xs) (w := w) is (fun j hj => h j (List.mem_cons_of_mem _ hj))
    simp [Op.eqItems, hp, he, ih, Result.andThen]
theorem eq_dig (s : S8) (x y : Operand) (w : World) : (do eqGuard .eql 50 x y (.agg (digV s)) (.agg (digV s)); binOp .eql 50 (.agg (digV s)) (.agg (digV s)) : Sem Value).run Try.prog w = .ok (.bool true) w := by
  have hi : (Try.prog.info? 5).isSome = true := by kernel_rfl
  obtain ⟨i, hi⟩ := Option.isSome_iff_exists.1 hi
  have hz := eqItems_same (d := 9998) (xs := digV s) (w := w) (List.range 32) (fun i hi => ⟨_, digV_at s (List.mem_range.1 hi)⟩)
  rw [Sem.run_bind, run_eqGuard_agg w .eql 50 x y _ _ (by kernel_rfl), Result.andThen_ok, run_eql_struct, run_equalIn_array w 9999 (t := 50) (e := 5) (n := 32) _ _ Try.underlying50 hi]
  rw [show (9999 : Nat) = 9998 + 1 from rfl, hz]
  rfl
theorem neq_dig (s : S8) (x y : Operand) (w : World) : (do eqGuard .neq 50 x y (.agg (digV s)) (.agg (digV s)); binOp .neq 50 (.agg (digV s)) (.agg (digV s)) : Sem Value).run Try.prog w = .ok (.bool false) w := by
  have hi : (Try.prog.info? 5).isSome = true := by kernel_rfl
  obtain ⟨i, hi⟩ := Option.isSome_iff_exists.1 hi
  have hz := eqItems_same (d := 9998) (xs := digV s) (w := w) (List.range 32) (fun i hi => ⟨_, digV_at s (List.mem_range.1 hi)⟩)
  rw [Sem.run_bind, run_eqGuard_agg w .neq 50 x y _ _ (by kernel_rfl), Result.andThen_ok, run_neq_struct, run_equalIn_array w 9999 (t := 50) (e := 5) (n := 32) _ _ Try.underlying50 hi]
  rw [show (9999 : Nat) = 9998 + 1 from rfl, hz]
  rfl
end Go.Proofs.Ytjgijifankaglaa
