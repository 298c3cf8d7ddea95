/- The digest of "abc", printed by genN.py. -/
import Derived.Test.YtgjehokkmdbknaaDoorShaJ
namespace Go.Proofs.YtgjehokkmdbknaaDoor
open Go Go.RowKit

def abcS : ByteArray := ⟨#[97, 98, 99]⟩
def abcM : Nat → Int := nth [1633837952, 0, 0, 0, 0, 0, 0, 0, 0, 0, 0, 0, 0, 0, 0, 24]
theorem ab_w0 : wAt abcM 0 = 1633837952 := by rw [wAt_lo _ _ (by decide)]; decide +kernel
theorem ab_w1 : wAt abcM 1 = 0 := by rw [wAt_lo _ _ (by decide)]; decide +kernel
theorem ab_w2 : wAt abcM 2 = 0 := by rw [wAt_lo _ _ (by decide)]; decide +kernel
theorem ab_w3 : wAt abcM 3 = 0 := by rw [wAt_lo _ _ (by decide)]; decide +kernel
theorem ab_w4 : wAt abcM 4 = 0 := by rw [wAt_lo _ _ (by decide)]; decide +kernel
theorem ab_w5 : wAt abcM 5 = 0 := by rw [wAt_lo _ _ (by decide)]; decide +kernel
theorem ab_w6 : wAt abcM 6 = 0 := by rw [wAt_lo _ _ (by decide)]; decide +kernel
theorem ab_w7 : wAt abcM 7 = 0 := by rw [wAt_lo _ _ (by decide)]; decide +kernel
theorem ab_w8 : wAt abcM 8 = 0 := by rw [wAt_lo _ _ (by decide)]; decide +kernel
theorem ab_w9 : wAt abcM 9 = 0 := by rw [wAt_lo _ _ (by decide)]; decide +kernel
theorem ab_w10 : wAt abcM 10 = 0 := by rw [wAt_lo _ _ (by decide)]; decide +kernel
theorem ab_w11 : wAt abcM 11 = 0 := by rw [wAt_lo _ _ (by decide)]; decide +kernel
theorem ab_w12 : wAt abcM 12 = 0 := by rw [wAt_lo _ _ (by decide)]; decide +kernel
theorem ab_w13 : wAt abcM 13 = 0 := by rw [wAt_lo _ _ (by decide)]; decide +kernel
theorem ab_w14 : wAt abcM 14 = 0 := by rw [wAt_lo _ _ (by decide)]; decide +kernel
theorem ab_w15 : wAt abcM 15 = 24 := by rw [wAt_lo _ _ (by decide)]; decide +kernel
theorem ab_w16 : wAt abcM 16 = 1633837952 := by rw [wAt_hi _ _ (by decide)]; simp only [Nat.reduceSub]; rw [ab_w0, ab_w9, ab_w1, ab_w14]; decide +kernel
theorem ab_w17 : wAt abcM 17 = 983040 := by rw [wAt_hi _ _ (by decide)]; simp only [Nat.reduceSub]; rw [ab_w1, ab_w10, ab_w2, ab_w15]; decide +kernel
theorem ab_w18 : wAt abcM 18 = 2108187653 := by rw [wAt_hi _ _ (by decide)]; simp only [Nat.reduceSub]; rw [ab_w2, ab_w11, ab_w3, ab_w16]; decide +kernel
theorem ab_w19 : wAt abcM 19 = 1610613702 := by rw [wAt_hi _ _ (by decide)]; simp only [Nat.reduceSub]; rw [ab_w3, ab_w12, ab_w4, ab_w17]; decide +kernel
theorem ab_w20 : wAt abcM 20 = 1050508152 := by rw [wAt_hi _ _ (by decide)]; simp only [Nat.reduceSub]; rw [ab_w4, ab_w13, ab_w5, ab_w18]; decide +kernel
theorem ab_w21 : wAt abcM 21 = 25426944 := by rw [wAt_hi _ _ (by decide)]; simp only [Nat.reduceSub]; rw [ab_w5, ab_w14, ab_w6, ab_w19]; decide +kernel
theorem ab_w22 : wAt abcM 22 = 316456923 := by rw [wAt_hi _ _ (by decide)]; simp only [Nat.reduceSub]; rw [ab_w6, ab_w15, ab_w7, ab_w20]; decide +kernel
theorem ab_w23 : wAt abcM 23 = 3806512014 := by rw [wAt_hi _ _ (by decide)]; simp only [Nat.reduceSub]; rw [ab_w7, ab_w16, ab_w8, ab_w21]; decide +kernel
theorem ab_w24 : wAt abcM 24 = 3357629466 := by rw [wAt_hi _ _ (by decide)]; simp only [Nat.reduceSub]; rw [ab_w8, ab_w17, ab_w9, ab_w22]; decide +kernel
theorem ab_w25 : wAt abcM 25 = 3073800610 := by rw [wAt_hi _ _ (by decide)]; simp only [Nat.reduceSub]; rw [ab_w9, ab_w18, ab_w10, ab_w23]; decide +kernel
theorem ab_w26 : wAt abcM 26 = 3854317833 := by rw [wAt_hi _ _ (by decide)]; simp only [Nat.reduceSub]; rw [ab_w10, ab_w19, ab_w11, ab_w24]; decide +kernel
theorem ab_w27 : wAt abcM 27 = 845560923 := by rw [wAt_hi _ _ (by decide)]; simp only [Nat.reduceSub]; rw [ab_w11, ab_w20, ab_w12, ab_w25]; decide +kernel
theorem ab_w28 : wAt abcM 28 = 2636160359 := by rw [wAt_hi _ _ (by decide)]; simp only [Nat.reduceSub]; rw [ab_w12, ab_w21, ab_w13, ab_w26]; decide +kernel
theorem ab_w29 : wAt abcM 29 = 3968280267 := by rw [wAt_hi _ _ (by decide)]; simp only [Nat.reduceSub]; rw [ab_w13, ab_w22, ab_w14, ab_w27]; decide +kernel
theorem ab_w30 : wAt abcM 30 = 1881225380 := by rw [wAt_hi _ _ (by decide)]; simp only [Nat.reduceSub]; rw [ab_w14, ab_w23, ab_w15, ab_w28]; decide +kernel
theorem ab_w31 : wAt abcM 31 = 3552024379 := by rw [wAt_hi _ _ (by decide)]; simp only [Nat.reduceSub]; rw [ab_w15, ab_w24, ab_w16, ab_w29]; decide +kernel
theorem ab_w32 : wAt abcM 32 = 2482346367 := by rw [wAt_hi _ _ (by decide)]; simp only [Nat.reduceSub]; rw [ab_w16, ab_w25, ab_w17, ab_w30]; decide +kernel
theorem ab_w33 : wAt abcM 33 = 996719219 := by rw [wAt_hi _ _ (by decide)]; simp only [Nat.reduceSub]; rw [ab_w17, ab_w26, ab_w18, ab_w31]; decide +kernel
theorem ab_w34 : wAt abcM 34 = 2952069057 := by rw [wAt_hi _ _ (by decide)]; simp only [Nat.reduceSub]; rw [ab_w18, ab_w27, ab_w19, ab_w32]; decide +kernel
theorem ab_w35 : wAt abcM 35 = 4043988066 := by rw [wAt_hi _ _ (by decide)]; simp only [Nat.reduceSub]; rw [ab_w19, ab_w28, ab_w20, ab_w33]; decide +kernel
theorem ab_w36 : wAt abcM 36 = 176896406 := by rw [wAt_hi _ _ (by decide)]; simp only [Nat.reduceSub]; rw [ab_w20, ab_w29, ab_w21, ab_w34]; decide +kernel
theorem ab_w37 : wAt abcM 37 = 1924104970 := by rw [wAt_hi _ _ (by decide)]; simp only [Nat.reduceSub]; rw [ab_w21, ab_w30, ab_w22, ab_w35]; decide +kernel
theorem ab_w38 : wAt abcM 38 = 2483675966 := by rw [wAt_hi _ _ (by decide)]; simp only [Nat.reduceSub]; rw [ab_w22, ab_w31, ab_w23, ab_w36]; decide +kernel
theorem ab_w39 : wAt abcM 39 = 610538786 := by rw [wAt_hi _ _ (by decide)]; simp only [Nat.reduceSub]; rw [ab_w23, ab_w32, ab_w24, ab_w37]; decide +kernel
theorem ab_w40 : wAt abcM 40 = 2672279444 := by rw [wAt_hi _ _ (by decide)]; simp only [Nat.reduceSub]; rw [ab_w24, ab_w33, ab_w25, ab_w38]; decide +kernel
theorem ab_w41 : wAt abcM 41 = 4037431130 := by rw [wAt_hi _ _ (by decide)]; simp only [Nat.reduceSub]; rw [ab_w25, ab_w34, ab_w26, ab_w39]; decide +kernel
theorem ab_w42 : wAt abcM 42 = 1042573945 := by rw [wAt_hi _ _ (by decide)]; simp only [Nat.reduceSub]; rw [ab_w26, ab_w35, ab_w27, ab_w40]; decide +kernel
theorem ab_w43 : wAt abcM 43 = 657669027 := by rw [wAt_hi _ _ (by decide)]; simp only [Nat.reduceSub]; rw [ab_w27, ab_w36, ab_w28, ab_w41]; decide +kernel
theorem ab_w44 : wAt abcM 44 = 206005234 := by rw [wAt_hi _ _ (by decide)]; simp only [Nat.reduceSub]; rw [ab_w28, ab_w37, ab_w29, ab_w42]; decide +kernel
theorem ab_w45 : wAt abcM 45 = 2215296807 := by rw [wAt_hi _ _ (by decide)]; simp only [Nat.reduceSub]; rw [ab_w29, ab_w38, ab_w30, ab_w43]; decide +kernel
theorem ab_w46 : wAt abcM 46 = 2049510749 := by rw [wAt_hi _ _ (by decide)]; simp only [Nat.reduceSub]; rw [ab_w30, ab_w39, ab_w31, ab_w44]; decide +kernel
theorem ab_w47 : wAt abcM 47 = 106709978 := by rw [wAt_hi _ _ (by decide)]; simp only [Nat.reduceSub]; rw [ab_w31, ab_w40, ab_w32, ab_w45]; decide +kernel
theorem ab_w48 : wAt abcM 48 = 4215179723 := by rw [wAt_hi _ _ (by decide)]; simp only [Nat.reduceSub]; rw [ab_w32, ab_w41, ab_w33, ab_w46]; decide +kernel
theorem ab_w49 : wAt abcM 49 = 3430291419 := by rw [wAt_hi _ _ (by decide)]; simp only [Nat.reduceSub]; rw [ab_w33, ab_w42, ab_w34, ab_w47]; decide +kernel
theorem ab_w50 : wAt abcM 50 = 3118885940 := by rw [wAt_hi _ _ (by decide)]; simp only [Nat.reduceSub]; rw [ab_w34, ab_w43, ab_w35, ab_w48]; decide +kernel
theorem ab_w51 : wAt abcM 51 = 2845390439 := by rw [wAt_hi _ _ (by decide)]; simp only [Nat.reduceSub]; rw [ab_w35, ab_w44, ab_w36, ab_w49]; decide +kernel
theorem ab_w52 : wAt abcM 52 = 2226839261 := by rw [wAt_hi _ _ (by decide)]; simp only [Nat.reduceSub]; rw [ab_w36, ab_w45, ab_w37, ab_w50]; decide +kernel
theorem ab_w53 : wAt abcM 53 = 3256115900 := by rw [wAt_hi _ _ (by decide)]; simp only [Nat.reduceSub]; rw [ab_w37, ab_w46, ab_w38, ab_w51]; decide +kernel
theorem ab_w54 : wAt abcM 54 = 344409900 := by rw [wAt_hi _ _ (by decide)]; simp only [Nat.reduceSub]; rw [ab_w38, ab_w47, ab_w39, ab_w52]; decide +kernel
theorem ab_w55 : wAt abcM 55 = 2987358873 := by rw [wAt_hi _ _ (by decide)]; simp only [Nat.reduceSub]; rw [ab_w39, ab_w48, ab_w40, ab_w53]; decide +kernel
theorem ab_w56 : wAt abcM 56 = 4015503821 := by rw [wAt_hi _ _ (by decide)]; simp only [Nat.reduceSub]; rw [ab_w40, ab_w49, ab_w41, ab_w54]; decide +kernel
theorem ab_w57 : wAt abcM 57 = 3957764664 := by rw [wAt_hi _ _ (by decide)]; simp only [Nat.reduceSub]; rw [ab_w41, ab_w50, ab_w42, ab_w55]; decide +kernel
theorem ab_w58 : wAt abcM 58 = 2682456414 := by rw [wAt_hi _ _ (by decide)]; simp only [Nat.reduceSub]; rw [ab_w42, ab_w51, ab_w43, ab_w56]; decide +kernel
theorem ab_w59 : wAt abcM 59 = 2025622859 := by rw [wAt_hi _ _ (by decide)]; simp only [Nat.reduceSub]; rw [ab_w43, ab_w52, ab_w44, ab_w57]; decide +kernel
theorem ab_w60 : wAt abcM 60 = 2755645205 := by rw [wAt_hi _ _ (by decide)]; simp only [Nat.reduceSub]; rw [ab_w44, ab_w53, ab_w45, ab_w58]; decide +kernel
theorem ab_w61 : wAt abcM 61 = 1720397816 := by rw [wAt_hi _ _ (by decide)]; simp only [Nat.reduceSub]; rw [ab_w45, ab_w54, ab_w46, ab_w59]; decide +kernel
theorem ab_w62 : wAt abcM 62 = 4004225740 := by rw [wAt_hi _ _ (by decide)]; simp only [Nat.reduceSub]; rw [ab_w46, ab_w55, ab_w47, ab_w60]; decide +kernel
theorem ab_w63 : wAt abcM 63 = 313650667 := by rw [wAt_hi _ _ (by decide)]; simp only [Nat.reduceSub]; rw [ab_w47, ab_w56, ab_w48, ab_w61]; decide +kernel
theorem ab_s0 : runS (nth kList) (wAt abcM) hSt 0 = ⟨1779033703, 3144134277, 1013904242, 2773480762, 1359893119, 2600822924, 528734635, 1541459225⟩ := rfl
theorem ab_s1 : runS (nth kList) (wAt abcM) hSt 1 = ⟨1567288269, 1779033703, 3144134277, 1013904242, 4197074466, 1359893119, 2600822924, 528734635⟩ := by rw [runS, ab_s0, ab_w0]; unfold stepS; simp only [St.mk.injEq]; decide +kernel
theorem ab_s2 : runS (nth kList) (wAt abcM) hSt 2 = ⟨1516951981, 1567288269, 1779033703, 3144134277, 2026797449, 4197074466, 1359893119, 2600822924⟩ := by rw [runS, ab_s1, ab_w1]; unfold stepS; simp only [St.mk.injEq]; decide +kernel
theorem ab_s3 : runS (nth kList) (wAt abcM) hSt 3 = ⟨3368241063, 1516951981, 1567288269, 1779033703, 4180228587, 2026797449, 4197074466, 1359893119⟩ := by rw [runS, ab_s2, ab_w2]; unfold stepS; simp only [St.mk.injEq]; decide +kernel
theorem ab_s4 : runS (nth kList) (wAt abcM) hSt 4 = ⟨3578852966, 3368241063, 1516951981, 1567288269, 618661968, 4180228587, 2026797449, 4197074466⟩ := by rw [runS, ab_s3, ab_w3]; unfold stepS; simp only [St.mk.injEq]; decide +kernel
theorem ab_s5 : runS (nth kList) (wAt abcM) hSt 5 = ⟨71342698, 3578852966, 3368241063, 1516951981, 1135452741, 618661968, 4180228587, 2026797449⟩ := by rw [runS, ab_s4, ab_w4]; unfold stepS; simp only [St.mk.injEq]; decide +kernel
theorem ab_s6 : runS (nth kList) (wAt abcM) hSt 6 = ⟨725748213, 71342698, 3578852966, 3368241063, 1900175533, 1135452741, 618661968, 4180228587⟩ := by rw [runS, ab_s5, ab_w5]; unfold stepS; simp only [St.mk.injEq]; decide +kernel
theorem ab_s7 : runS (nth kList) (wAt abcM) hSt 7 = ⟨3842179968, 725748213, 71342698, 3578852966, 2603066369, 1900175533, 1135452741, 618661968⟩ := by rw [runS, ab_s6, ab_w6]; unfold stepS; simp only [St.mk.injEq]; decide +kernel
theorem ab_s8 : runS (nth kList) (wAt abcM) hSt 8 = ⟨2241887071, 3842179968, 725748213, 71342698, 207977081, 2603066369, 1900175533, 1135452741⟩ := by rw [runS, ab_s7, ab_w7]; unfold stepS; simp only [St.mk.injEq]; decide +kernel
theorem ab_s9 : runS (nth kList) (wAt abcM) hSt 9 = ⟨2382687417, 2241887071, 3842179968, 725748213, 852110732, 207977081, 2603066369, 1900175533⟩ := by rw [runS, ab_s8, ab_w8]; unfold stepS; simp only [St.mk.injEq]; decide +kernel
theorem ab_s10 : runS (nth kList) (wAt abcM) hSt 10 = ⟨2357671019, 2382687417, 2241887071, 3842179968, 482944406, 852110732, 207977081, 2603066369⟩ := by rw [runS, ab_s9, ab_w9]; unfold stepS; simp only [St.mk.injEq]; decide +kernel
theorem ab_s11 : runS (nth kList) (wAt abcM) hSt 11 = ⟨1201185780, 2357671019, 2382687417, 2241887071, 1131095016, 482944406, 852110732, 207977081⟩ := by rw [runS, ab_s10, ab_w10]; unfold stepS; simp only [St.mk.injEq]; decide +kernel
theorem ab_s12 : runS (nth kList) (wAt abcM) hSt 12 = ⟨4146054569, 1201185780, 2357671019, 2382687417, 2171590377, 1131095016, 482944406, 852110732⟩ := by rw [runS, ab_s11, ab_w11]; unfold stepS; simp only [St.mk.injEq]; decide +kernel
theorem ab_s13 : runS (nth kList) (wAt abcM) hSt 13 = ⟨2274437520, 4146054569, 1201185780, 2357671019, 509051416, 2171590377, 1131095016, 482944406⟩ := by rw [runS, ab_s12, ab_w12]; unfold stepS; simp only [St.mk.injEq]; decide +kernel
theorem ab_s14 : runS (nth kList) (wAt abcM) hSt 14 = ⟨3643992854, 2274437520, 4146054569, 1201185780, 1952073950, 509051416, 2171590377, 1131095016⟩ := by rw [runS, ab_s13, ab_w13]; unfold stepS; simp only [St.mk.injEq]; decide +kernel
theorem ab_s15 : runS (nth kList) (wAt abcM) hSt 15 = ⟨3227803614, 3643992854, 2274437520, 4146054569, 194179596, 1952073950, 509051416, 2171590377⟩ := by rw [runS, ab_s14, ab_w14]; unfold stepS; simp only [St.mk.injEq]; decide +kernel
theorem ab_s16 : runS (nth kList) (wAt abcM) hSt 16 = ⟨2969183118, 3227803614, 3643992854, 2274437520, 123276749, 194179596, 1952073950, 509051416⟩ := by rw [runS, ab_s15, ab_w15]; unfold stepS; simp only [St.mk.injEq]; decide +kernel
theorem ab_s17 : runS (nth kList) (wAt abcM) hSt 17 = ⟨567974555, 2969183118, 3227803614, 3643992854, 2150900380, 123276749, 194179596, 1952073950⟩ := by rw [runS, ab_s16, ab_w16]; unfold stepS; simp only [St.mk.injEq]; decide +kernel
theorem ab_s18 : runS (nth kList) (wAt abcM) hSt 18 = ⟨3271285201, 567974555, 2969183118, 3227803614, 2221859924, 2150900380, 123276749, 194179596⟩ := by rw [runS, ab_s17, ab_w17]; unfold stepS; simp only [St.mk.injEq]; decide +kernel
theorem ab_s19 : runS (nth kList) (wAt abcM) hSt 19 = ⟨4269243327, 3271285201, 567974555, 2969183118, 3431569761, 2221859924, 2150900380, 123276749⟩ := by rw [runS, ab_s18, ab_w18]; unfold stepS; simp only [St.mk.injEq]; decide +kernel
theorem ab_s20 : runS (nth kList) (wAt abcM) hSt 20 = ⟨3790736435, 4269243327, 3271285201, 567974555, 2959311225, 3431569761, 2221859924, 2150900380⟩ := by rw [runS, ab_s19, ab_w19]; unfold stepS; simp only [St.mk.injEq]; decide +kernel
theorem ab_s21 : runS (nth kList) (wAt abcM) hSt 21 = ⟨2647034723, 3790736435, 4269243327, 3271285201, 2329577776, 2959311225, 3431569761, 2221859924⟩ := by rw [runS, ab_s20, ab_w20]; unfold stepS; simp only [St.mk.injEq]; decide +kernel
theorem ab_s22 : runS (nth kList) (wAt abcM) hSt 22 = ⟨3261099373, 2647034723, 3790736435, 4269243327, 3777329520, 2329577776, 2959311225, 3431569761⟩ := by rw [runS, ab_s21, ab_w21]; unfold stepS; simp only [St.mk.injEq]; decide +kernel
theorem ab_s23 : runS (nth kList) (wAt abcM) hSt 23 = ⟨2812502591, 3261099373, 2647034723, 3790736435, 1240797514, 3777329520, 2329577776, 2959311225⟩ := by rw [runS, ab_s22, ab_w22]; unfold stepS; simp only [St.mk.injEq]; decide +kernel
theorem ab_s24 : runS (nth kList) (wAt abcM) hSt 24 = ⟨3319086477, 2812502591, 3261099373, 2647034723, 2856829767, 1240797514, 3777329520, 2329577776⟩ := by rw [runS, ab_s23, ab_w23]; unfold stepS; simp only [St.mk.injEq]; decide +kernel
theorem ab_s25 : runS (nth kList) (wAt abcM) hSt 25 = ⟨472655928, 3319086477, 2812502591, 3261099373, 673443729, 2856829767, 1240797514, 3777329520⟩ := by rw [runS, ab_s24, ab_w24]; unfold stepS; simp only [St.mk.injEq]; decide +kernel
theorem ab_s26 : runS (nth kList) (wAt abcM) hSt 26 = ⟨3454534525, 472655928, 3319086477, 2812502591, 339230094, 673443729, 2856829767, 1240797514⟩ := by rw [runS, ab_s25, ab_w25]; unfold stepS; simp only [St.mk.injEq]; decide +kernel
theorem ab_s27 : runS (nth kList) (wAt abcM) hSt 27 = ⟨3056518332, 3454534525, 472655928, 3319086477, 3343672598, 339230094, 673443729, 2856829767⟩ := by rw [runS, ab_s26, ab_w26]; unfold stepS; simp only [St.mk.injEq]; decide +kernel
theorem ab_s28 : runS (nth kList) (wAt abcM) hSt 28 = ⟨2010346792, 3056518332, 3454534525, 472655928, 3992961016, 3343672598, 339230094, 673443729⟩ := by rw [runS, ab_s27, ab_w27]; unfold stepS; simp only [St.mk.injEq]; decide +kernel
theorem ab_s29 : runS (nth kList) (wAt abcM) hSt 29 = ⟨909411017, 2010346792, 3056518332, 3454534525, 1628611511, 3992961016, 3343672598, 339230094⟩ := by rw [runS, ab_s28, ab_w28]; unfold stepS; simp only [St.mk.injEq]; decide +kernel
theorem ab_s30 : runS (nth kList) (wAt abcM) hSt 30 = ⟨2684750640, 909411017, 2010346792, 3056518332, 2917635127, 1628611511, 3992961016, 3343672598⟩ := by rw [runS, ab_s29, ab_w29]; unfold stepS; simp only [St.mk.injEq]; decide +kernel
theorem ab_s31 : runS (nth kList) (wAt abcM) hSt 31 = ⟨3935906338, 2684750640, 909411017, 2010346792, 17410874, 2917635127, 1628611511, 3992961016⟩ := by rw [runS, ab_s30, ab_w30]; unfold stepS; simp only [St.mk.injEq]; decide +kernel
theorem ab_s32 : runS (nth kList) (wAt abcM) hSt 32 = ⟨1941126133, 3935906338, 2684750640, 909411017, 3126399250, 17410874, 2917635127, 1628611511⟩ := by rw [runS, ab_s31, ab_w31]; unfold stepS; simp only [St.mk.injEq]; decide +kernel
theorem ab_s33 : runS (nth kList) (wAt abcM) hSt 33 = ⟨2564891911, 1941126133, 3935906338, 2684750640, 2631529974, 3126399250, 17410874, 2917635127⟩ := by rw [runS, ab_s32, ab_w32]; unfold stepS; simp only [St.mk.injEq]; decide +kernel
theorem ab_s34 : runS (nth kList) (wAt abcM) hSt 34 = ⟨4267724277, 2564891911, 1941126133, 3935906338, 1495571923, 2631529974, 3126399250, 17410874⟩ := by rw [runS, ab_s33, ab_w33]; unfold stepS; simp only [St.mk.injEq]; decide +kernel
theorem ab_s35 : runS (nth kList) (wAt abcM) hSt 35 = ⟨2846323596, 4267724277, 2564891911, 1941126133, 140458035, 1495571923, 2631529974, 3126399250⟩ := by rw [runS, ab_s34, ab_w34]; unfold stepS; simp only [St.mk.injEq]; decide +kernel
theorem ab_s36 : runS (nth kList) (wAt abcM) hSt 36 = ⟨1705037796, 2846323596, 4267724277, 2564891911, 4105175766, 140458035, 1495571923, 2631529974⟩ := by rw [runS, ab_s35, ab_w35]; unfold stepS; simp only [St.mk.injEq]; decide +kernel
theorem ab_s37 : runS (nth kList) (wAt abcM) hSt 37 = ⟨1101421745, 1705037796, 2846323596, 4267724277, 124953195, 4105175766, 140458035, 1495571923⟩ := by rw [runS, ab_s36, ab_w36]; unfold stepS; simp only [St.mk.injEq]; decide +kernel
theorem ab_s38 : runS (nth kList) (wAt abcM) hSt 38 = ⟨887035396, 1101421745, 1705037796, 2846323596, 2768741693, 124953195, 4105175766, 140458035⟩ := by rw [runS, ab_s37, ab_w37]; unfold stepS; simp only [St.mk.injEq]; decide +kernel
theorem ab_s39 : runS (nth kList) (wAt abcM) hSt 39 = ⟨1841658506, 887035396, 1101421745, 1705037796, 4034403272, 2768741693, 124953195, 4105175766⟩ := by rw [runS, ab_s38, ab_w38]; unfold stepS; simp only [St.mk.injEq]; decide +kernel
theorem ab_s40 : runS (nth kList) (wAt abcM) hSt 40 = ⟨2045405306, 1841658506, 887035396, 1101421745, 519815328, 4034403272, 2768741693, 124953195⟩ := by rw [runS, ab_s39, ab_w39]; unfold stepS; simp only [St.mk.injEq]; decide +kernel
theorem ab_s41 : runS (nth kList) (wAt abcM) hSt 41 = ⟨3597076326, 2045405306, 1841658506, 887035396, 641019235, 519815328, 4034403272, 2768741693⟩ := by rw [runS, ab_s40, ab_w40]; unfold stepS; simp only [St.mk.injEq]; decide +kernel
theorem ab_s42 : runS (nth kList) (wAt abcM) hSt 42 = ⟨3745932591, 3597076326, 2045405306, 1841658506, 2206934801, 641019235, 519815328, 4034403272⟩ := by rw [runS, ab_s41, ab_w41]; unfold stepS; simp only [St.mk.injEq]; decide +kernel
theorem ab_s43 : runS (nth kList) (wAt abcM) hSt 43 = ⟨397020670, 3745932591, 3597076326, 2045405306, 3737995029, 2206934801, 641019235, 519815328⟩ := by rw [runS, ab_s42, ab_w42]; unfold stepS; simp only [St.mk.injEq]; decide +kernel
theorem ab_s44 : runS (nth kList) (wAt abcM) hSt 44 = ⟨2638983059, 397020670, 3745932591, 3597076326, 4255271982, 3737995029, 2206934801, 641019235⟩ := by rw [runS, ab_s43, ab_w43]; unfold stepS; simp only [St.mk.injEq]; decide +kernel
theorem ab_s45 : runS (nth kList) (wAt abcM) hSt 45 = ⟨643991573, 2638983059, 397020670, 3745932591, 2819559920, 4255271982, 3737995029, 2206934801⟩ := by rw [runS, ab_s44, ab_w44]; unfold stepS; simp only [St.mk.injEq]; decide +kernel
theorem ab_s46 : runS (nth kList) (wAt abcM) hSt 46 = ⟨1923828625, 643991573, 2638983059, 397020670, 3077922209, 2819559920, 4255271982, 3737995029⟩ := by rw [runS, ab_s45, ab_w45]; unfold stepS; simp only [St.mk.injEq]; decide +kernel
theorem ab_s47 : runS (nth kList) (wAt abcM) hSt 47 = ⟨2706117808, 1923828625, 643991573, 2638983059, 3581645993, 3077922209, 2819559920, 4255271982⟩ := by rw [runS, ab_s46, ab_w46]; unfold stepS; simp only [St.mk.injEq]; decide +kernel
theorem ab_s48 : runS (nth kList) (wAt abcM) hSt 48 = ⟨1098003085, 2706117808, 1923828625, 643991573, 4274981830, 3581645993, 3077922209, 2819559920⟩ := by rw [runS, ab_s47, ab_w47]; unfold stepS; simp only [St.mk.injEq]; decide +kernel
theorem ab_s49 : runS (nth kList) (wAt abcM) hSt 49 = ⟨91585771, 1098003085, 2706117808, 1923828625, 3178315832, 4274981830, 3581645993, 3077922209⟩ := by rw [runS, ab_s48, ab_w48]; unfold stepS; simp only [St.mk.injEq]; decide +kernel
theorem ab_s50 : runS (nth kList) (wAt abcM) hSt 50 = ⟨4045142696, 91585771, 1098003085, 2706117808, 1851537676, 3178315832, 4274981830, 3581645993⟩ := by rw [runS, ab_s49, ab_w49]; unfold stepS; simp only [St.mk.injEq]; decide +kernel
theorem ab_s51 : runS (nth kList) (wAt abcM) hSt 51 = ⟨2047150241, 4045142696, 91585771, 1098003085, 1391578359, 1851537676, 3178315832, 4274981830⟩ := by rw [runS, ab_s50, ab_w50]; unfold stepS; simp only [St.mk.injEq]; decide +kernel
theorem ab_s52 : runS (nth kList) (wAt abcM) hSt 52 = ⟨2288941602, 2047150241, 4045142696, 91585771, 1227037726, 1391578359, 1851537676, 3178315832⟩ := by rw [runS, ab_s51, ab_w51]; unfold stepS; simp only [St.mk.injEq]; decide +kernel
theorem ab_s53 : runS (nth kList) (wAt abcM) hSt 53 = ⟨270520975, 2288941602, 2047150241, 4045142696, 1386118400, 1227037726, 1391578359, 1851537676⟩ := by rw [runS, ab_s52, ab_w52]; unfold stepS; simp only [St.mk.injEq]; decide +kernel
theorem ab_s54 : runS (nth kList) (wAt abcM) hSt 54 = ⟨4117770203, 270520975, 2288941602, 2047150241, 2672265155, 1386118400, 1227037726, 1391578359⟩ := by rw [runS, ab_s53, ab_w53]; unfold stepS; simp only [St.mk.injEq]; decide +kernel
theorem ab_s55 : runS (nth kList) (wAt abcM) hSt 55 = ⟨1053056219, 4117770203, 270520975, 2288941602, 3842906959, 2672265155, 1386118400, 1227037726⟩ := by rw [runS, ab_s54, ab_w54]; unfold stepS; simp only [St.mk.injEq]; decide +kernel
theorem ab_s56 : runS (nth kList) (wAt abcM) hSt 56 = ⟨952932627, 1053056219, 4117770203, 270520975, 1422599787, 3842906959, 2672265155, 1386118400⟩ := by rw [runS, ab_s55, ab_w55]; unfold stepS; simp only [St.mk.injEq]; decide +kernel
theorem ab_s57 : runS (nth kList) (wAt abcM) hSt 57 = ⟨4241590395, 952932627, 1053056219, 4117770203, 2606665836, 1422599787, 3842906959, 2672265155⟩ := by rw [runS, ab_s56, ab_w56]; unfold stepS; simp only [St.mk.injEq]; decide +kernel
theorem ab_s58 : runS (nth kList) (wAt abcM) hSt 58 = ⟨3227702383, 4241590395, 952932627, 1053056219, 2118385806, 2606665836, 1422599787, 3842906959⟩ := by rw [runS, ab_s57, ab_w57]; unfold stepS; simp only [St.mk.injEq]; decide +kernel
theorem ab_s59 : runS (nth kList) (wAt abcM) hSt 59 = ⟨4290184306, 3227702383, 4241590395, 952932627, 1837350854, 2118385806, 2606665836, 1422599787⟩ := by rw [runS, ab_s58, ab_w58]; unfold stepS; simp only [St.mk.injEq]; decide +kernel
theorem ab_s60 : runS (nth kList) (wAt abcM) hSt 60 = ⟨3064893439, 4290184306, 3227702383, 4241590395, 2988158269, 1837350854, 2118385806, 2606665836⟩ := by rw [runS, ab_s59, ab_w59]; unfold stepS; simp only [St.mk.injEq]; decide +kernel
theorem ab_s61 : runS (nth kList) (wAt abcM) hSt 61 = ⟨3093179625, 3064893439, 4290184306, 3227702383, 2518632596, 2988158269, 1837350854, 2118385806⟩ := by rw [runS, ab_s60, ab_w60]; unfold stepS; simp only [St.mk.injEq]; decide +kernel
theorem ab_s62 : runS (nth kList) (wAt abcM) hSt 62 = ⟨80891244, 3093179625, 3064893439, 4290184306, 2492278198, 2518632596, 2988158269, 1837350854⟩ := by rw [runS, ab_s61, ab_w61]; unfold stepS; simp only [St.mk.injEq]; decide +kernel
theorem ab_s63 : runS (nth kList) (wAt abcM) hSt 63 = ⟨3550093669, 80891244, 3093179625, 3064893439, 4212265488, 2492278198, 2518632596, 2988158269⟩ := by rw [runS, ab_s62, ab_w62]; unfold stepS; simp only [St.mk.injEq]; decide +kernel
theorem ab_s64 : runS (nth kList) (wAt abcM) hSt 64 = ⟨1349398616, 3550093669, 80891244, 3093179625, 1593118500, 4212265488, 2492278198, 2518632596⟩ := by rw [runS, ab_s63, ab_w63]; unfold stepS; simp only [St.mk.injEq]; decide +kernel
theorem ab_mix : mixS (nth kList) hSt abcM = ⟨3128432319, 2399260650, 1094795486, 1571693091, 2953011619, 2518121116, 3021012833, 4060091821⟩ := by unfold mixS; rw [ab_s64]; unfold addS; simp only [St.mk.injEq]; decide +kernel
theorem ab_dig : digL (bytesL abcS) = [97, 98, 99, 128, 0, 0, 0, 0, 0, 0, 0, 0, 0, 0, 0, 0, 0, 0, 0, 0, 0, 0, 0, 0, 0, 0, 0, 0, 0, 0, 0, 0, 0, 0, 0, 0, 0, 0, 0, 0, 0, 0, 0, 0, 0, 0, 0, 0, 0, 0, 0, 0, 0, 0, 0, 0, 0, 0, 0, 0, 0, 0, 0, 24] := by decide +kernel
theorem ab_words (x : Nat → Int) (hx : ∀ i, i < 64 → x i = nth [97, 98, 99, 128, 0, 0, 0, 0, 0, 0, 0, 0, 0, 0, 0, 0, 0, 0, 0, 0, 0, 0, 0, 0, 0, 0, 0, 0, 0, 0, 0, 0, 0, 0, 0, 0, 0, 0, 0, 0, 0, 0, 0, 0, 0, 0, 0, 0, 0, 0, 0, 0, 0, 0, 0, 0, 0, 0, 0, 0, 0, 0, 0, 24] i) : ∀ i, i < 16 → wordAt x (64 * 0 + 4 * i) = abcM i := by
  intro i hi
  have h1 : wordAt x (64 * 0 + 4 * i) = wordAt (nth [97, 98, 99, 128, 0, 0, 0, 0, 0, 0, 0, 0, 0, 0, 0, 0, 0, 0, 0, 0, 0, 0, 0, 0, 0, 0, 0, 0, 0, 0, 0, 0, 0, 0, 0, 0, 0, 0, 0, 0, 0, 0, 0, 0, 0, 0, 0, 0, 0, 0, 0, 0, 0, 0, 0, 0, 0, 0, 0, 0, 0, 0, 0, 24]) (4 * i) := wordAt_congr _ _ _ _ fun j hj => by rw [hx _ (by omega)]; congr 1; omega
  rw [h1]
  have : ∀ i : Fin 16, wordAt (nth [97, 98, 99, 128, 0, 0, 0, 0, 0, 0, 0, 0, 0, 0, 0, 0, 0, 0, 0, 0, 0, 0, 0, 0, 0, 0, 0, 0, 0, 0, 0, 0, 0, 0, 0, 0, 0, 0, 0, 0, 0, 0, 0, 0, 0, 0, 0, 0, 0, 0, 0, 0, 0, 0, 0, 0, 0, 0, 0, 0, 0, 0, 0, 24]) (4 * i.val) = abcM i.val := by decide +kernel
  exact this ⟨i, hi⟩
theorem abc_sum : sumS (nth kList) hSt (bytesL abcS) = ⟨#[186, 120, 22, 191, 143, 1, 207, 234, 65, 65, 64, 222, 93, 174, 34, 35, 176, 3, 97, 163, 150, 23, 122, 156, 180, 16, 255, 97, 242, 0, 21, 173]⟩ := by
  unfold sumS
  rw [ab_dig]
  have h1 : foldB (nth kList) hSt (nth [97, 98, 99, 128, 0, 0, 0, 0, 0, 0, 0, 0, 0, 0, 0, 0, 0, 0, 0, 0, 0, 0, 0, 0, 0, 0, 0, 0, 0, 0, 0, 0, 0, 0, 0, 0, 0, 0, 0, 0, 0, 0, 0, 0, 0, 0, 0, 0, 0, 0, 0, 0, 0, 0, 0, 0, 0, 0, 0, 0, 0, 0, 0, 24]) 1 = ⟨3128432319, 2399260650, 1094795486, 1571693091, 2953011619, 2518121116, 3021012833, 4060091821⟩ := by
    show mixS (nth kList) hSt (fun i => wordAt _ (64 * 0 + 4 * i)) = _
    rw [mixS_congr _ _ _ abcM (ab_words _ (fun _ _ => rfl)), ab_mix]
  rw [show ([97, 98, 99, 128, 0, 0, 0, 0, 0, 0, 0, 0, 0, 0, 0, 0, 0, 0, 0, 0, 0, 0, 0, 0, 0, 0, 0, 0, 0, 0, 0, 0, 0, 0, 0, 0, 0, 0, 0, 0, 0, 0, 0, 0, 0, 0, 0, 0, 0, 0, 0, 0, 0, 0, 0, 0, 0, 0, 0, 0, 0, 0, 0, 24] : List Int).length / 64 = 1 from by decide, h1]
  decide +kernel
end Go.Proofs.YtgjehokkmdbknaaDoor
