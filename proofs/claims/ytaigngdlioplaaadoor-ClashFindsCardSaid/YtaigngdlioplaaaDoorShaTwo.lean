/- The digest of some bytes (lfa), printed by genN.py. -/
import Derived.Test.YtaigngdlioplaaaDoorShaJ
namespace Go.Proofs.YtaigngdlioplaaaDoor
open Go Go.RowKit

def lfaS : ByteArray := ⟨#[0, 97]⟩
def lfaM : Nat → Int := nth [6389760, 0, 0, 0, 0, 0, 0, 0, 0, 0, 0, 0, 0, 0, 0, 16]
theorem la_w0 : wAt lfaM 0 = 6389760 := by rw [wAt_lo _ _ (by decide)]; decide +kernel
theorem la_w1 : wAt lfaM 1 = 0 := by rw [wAt_lo _ _ (by decide)]; decide +kernel
theorem la_w2 : wAt lfaM 2 = 0 := by rw [wAt_lo _ _ (by decide)]; decide +kernel
theorem la_w3 : wAt lfaM 3 = 0 := by rw [wAt_lo _ _ (by decide)]; decide +kernel
theorem la_w4 : wAt lfaM 4 = 0 := by rw [wAt_lo _ _ (by decide)]; decide +kernel
theorem la_w5 : wAt lfaM 5 = 0 := by rw [wAt_lo _ _ (by decide)]; decide +kernel
theorem la_w6 : wAt lfaM 6 = 0 := by rw [wAt_lo _ _ (by decide)]; decide +kernel
theorem la_w7 : wAt lfaM 7 = 0 := by rw [wAt_lo _ _ (by decide)]; decide +kernel
theorem la_w8 : wAt lfaM 8 = 0 := by rw [wAt_lo _ _ (by decide)]; decide +kernel
theorem la_w9 : wAt lfaM 9 = 0 := by rw [wAt_lo _ _ (by decide)]; decide +kernel
theorem la_w10 : wAt lfaM 10 = 0 := by rw [wAt_lo _ _ (by decide)]; decide +kernel
theorem la_w11 : wAt lfaM 11 = 0 := by rw [wAt_lo _ _ (by decide)]; decide +kernel
theorem la_w12 : wAt lfaM 12 = 0 := by rw [wAt_lo _ _ (by decide)]; decide +kernel
theorem la_w13 : wAt lfaM 13 = 0 := by rw [wAt_lo _ _ (by decide)]; decide +kernel
theorem la_w14 : wAt lfaM 14 = 0 := by rw [wAt_lo _ _ (by decide)]; decide +kernel
theorem la_w15 : wAt lfaM 15 = 16 := by rw [wAt_lo _ _ (by decide)]; decide +kernel
theorem la_w16 : wAt lfaM 16 = 6389760 := by rw [wAt_hi _ _ (by decide)]; simp only [Nat.reduceSub]; rw [la_w0, la_w9, la_w1, la_w14]; decide +kernel
theorem la_w17 : wAt lfaM 17 = 655360 := by rw [wAt_hi _ _ (by decide)]; simp only [Nat.reduceSub]; rw [la_w1, la_w10, la_w2, la_w15]; decide +kernel
theorem la_w18 : wAt lfaM 18 = 4026538076 := by rw [wAt_hi _ _ (by decide)]; simp only [Nat.reduceSub]; rw [la_w2, la_w11, la_w3, la_w16]; decide +kernel
theorem la_w19 : wAt lfaM 19 = 1073742468 := by rw [wAt_hi _ _ (by decide)]; simp only [Nat.reduceSub]; rw [la_w3, la_w12, la_w4, la_w17]; decide +kernel
theorem la_w20 : wAt lfaM 20 = 253355526 := by rw [wAt_hi _ _ (by decide)]; simp only [Nat.reduceSub]; rw [la_w4, la_w13, la_w5, la_w18]; decide +kernel
theorem la_w21 : wAt lfaM 21 = 16951296 := by rw [wAt_hi _ _ (by decide)]; simp only [Nat.reduceSub]; rw [la_w5, la_w14, la_w6, la_w19]; decide +kernel
theorem la_w22 : wAt lfaM 22 = 3485466662 := by rw [wAt_hi _ _ (by decide)]; simp only [Nat.reduceSub]; rw [la_w6, la_w15, la_w7, la_w20]; decide +kernel
theorem la_w23 : wAt lfaM 23 = 23183371 := by rw [wAt_hi _ _ (by decide)]; simp only [Nat.reduceSub]; rw [la_w7, la_w16, la_w8, la_w21]; decide +kernel
theorem la_w24 : wAt lfaM 24 = 3034648 := by rw [wAt_hi _ _ (by decide)]; simp only [Nat.reduceSub]; rw [la_w8, la_w17, la_w9, la_w22]; decide +kernel
theorem la_w25 : wAt lfaM 25 = 3355758920 := by rw [wAt_hi _ _ (by decide)]; simp only [Nat.reduceSub]; rw [la_w9, la_w18, la_w10, la_w23]; decide +kernel
theorem la_w26 : wAt lfaM 26 = 785321477 := by rw [wAt_hi _ _ (by decide)]; simp only [Nat.reduceSub]; rw [la_w10, la_w19, la_w11, la_w24]; decide +kernel
theorem la_w27 : wAt lfaM 27 = 31023676 := by rw [wAt_hi _ _ (by decide)]; simp only [Nat.reduceSub]; rw [la_w11, la_w20, la_w12, la_w25]; decide +kernel
theorem la_w28 : wAt lfaM 28 = 1741433213 := by rw [wAt_hi _ _ (by decide)]; simp only [Nat.reduceSub]; rw [la_w12, la_w21, la_w13, la_w26]; decide +kernel
theorem la_w29 : wAt lfaM 29 = 1830418101 := by rw [wAt_hi _ _ (by decide)]; simp only [Nat.reduceSub]; rw [la_w13, la_w22, la_w14, la_w27]; decide +kernel
theorem la_w30 : wAt lfaM 30 = 3001986082 := by rw [wAt_hi _ _ (by decide)]; simp only [Nat.reduceSub]; rw [la_w14, la_w23, la_w15, la_w28]; decide +kernel
theorem la_w31 : wAt lfaM 31 = 634560146 := by rw [wAt_hi _ _ (by decide)]; simp only [Nat.reduceSub]; rw [la_w15, la_w24, la_w16, la_w29]; decide +kernel
theorem la_w32 : wAt lfaM 32 = 3424737739 := by rw [wAt_hi _ _ (by decide)]; simp only [Nat.reduceSub]; rw [la_w16, la_w25, la_w17, la_w30]; decide +kernel
theorem la_w33 : wAt lfaM 33 = 3982651444 := by rw [wAt_hi _ _ (by decide)]; simp only [Nat.reduceSub]; rw [la_w17, la_w26, la_w18, la_w31]; decide +kernel
theorem la_w34 : wAt lfaM 34 = 2045387439 := by rw [wAt_hi _ _ (by decide)]; simp only [Nat.reduceSub]; rw [la_w18, la_w27, la_w19, la_w32]; decide +kernel
theorem la_w35 : wAt lfaM 35 = 2456841292 := by rw [wAt_hi _ _ (by decide)]; simp only [Nat.reduceSub]; rw [la_w19, la_w28, la_w20, la_w33]; decide +kernel
theorem la_w36 : wAt lfaM 36 = 2071090699 := by rw [wAt_hi _ _ (by decide)]; simp only [Nat.reduceSub]; rw [la_w20, la_w29, la_w21, la_w34]; decide +kernel
theorem la_w37 : wAt lfaM 37 = 1139462019 := by rw [wAt_hi _ _ (by decide)]; simp only [Nat.reduceSub]; rw [la_w21, la_w30, la_w22, la_w35]; decide +kernel
theorem la_w38 : wAt lfaM 38 = 3180914899 := by rw [wAt_hi _ _ (by decide)]; simp only [Nat.reduceSub]; rw [la_w22, la_w31, la_w23, la_w36]; decide +kernel
theorem la_w39 : wAt lfaM 39 = 2938626661 := by rw [wAt_hi _ _ (by decide)]; simp only [Nat.reduceSub]; rw [la_w23, la_w32, la_w24, la_w37]; decide +kernel
theorem la_w40 : wAt lfaM 40 = 330313499 := by rw [wAt_hi _ _ (by decide)]; simp only [Nat.reduceSub]; rw [la_w24, la_w33, la_w25, la_w38]; decide +kernel
theorem la_w41 : wAt lfaM 41 = 457823221 := by rw [wAt_hi _ _ (by decide)]; simp only [Nat.reduceSub]; rw [la_w25, la_w34, la_w26, la_w39]; decide +kernel
theorem la_w42 : wAt lfaM 42 = 4100006123 := by rw [wAt_hi _ _ (by decide)]; simp only [Nat.reduceSub]; rw [la_w26, la_w35, la_w27, la_w40]; decide +kernel
theorem la_w43 : wAt lfaM 43 = 1295513998 := by rw [wAt_hi _ _ (by decide)]; simp only [Nat.reduceSub]; rw [la_w27, la_w36, la_w28, la_w41]; decide +kernel
theorem la_w44 : wAt lfaM 44 = 2061560945 := by rw [wAt_hi _ _ (by decide)]; simp only [Nat.reduceSub]; rw [la_w28, la_w37, la_w29, la_w42]; decide +kernel
theorem la_w45 : wAt lfaM 45 = 650716850 := by rw [wAt_hi _ _ (by decide)]; simp only [Nat.reduceSub]; rw [la_w29, la_w38, la_w30, la_w43]; decide +kernel
theorem la_w46 : wAt lfaM 46 = 1427388473 := by rw [wAt_hi _ _ (by decide)]; simp only [Nat.reduceSub]; rw [la_w30, la_w39, la_w31, la_w44]; decide +kernel
theorem la_w47 : wAt lfaM 47 = 3380104739 := by rw [wAt_hi _ _ (by decide)]; simp only [Nat.reduceSub]; rw [la_w31, la_w40, la_w32, la_w45]; decide +kernel
theorem la_w48 : wAt lfaM 48 = 1794483364 := by rw [wAt_hi _ _ (by decide)]; simp only [Nat.reduceSub]; rw [la_w32, la_w41, la_w33, la_w46]; decide +kernel
theorem la_w49 : wAt lfaM 49 = 3926958857 := by rw [wAt_hi _ _ (by decide)]; simp only [Nat.reduceSub]; rw [la_w33, la_w42, la_w34, la_w47]; decide +kernel
theorem la_w50 : wAt lfaM 50 = 3195530071 := by rw [wAt_hi _ _ (by decide)]; simp only [Nat.reduceSub]; rw [la_w34, la_w43, la_w35, la_w48]; decide +kernel
theorem la_w51 : wAt lfaM 51 = 3746239952 := by rw [wAt_hi _ _ (by decide)]; simp only [Nat.reduceSub]; rw [la_w35, la_w44, la_w36, la_w49]; decide +kernel
theorem la_w52 : wAt lfaM 52 = 1749323361 := by rw [wAt_hi _ _ (by decide)]; simp only [Nat.reduceSub]; rw [la_w36, la_w45, la_w37, la_w50]; decide +kernel
theorem la_w53 : wAt lfaM 53 = 207712754 := by rw [wAt_hi _ _ (by decide)]; simp only [Nat.reduceSub]; rw [la_w37, la_w46, la_w38, la_w51]; decide +kernel
theorem la_w54 : wAt lfaM 54 = 2216400704 := by rw [wAt_hi _ _ (by decide)]; simp only [Nat.reduceSub]; rw [la_w38, la_w47, la_w39, la_w52]; decide +kernel
theorem la_w55 : wAt lfaM 55 = 4034496570 := by rw [wAt_hi _ _ (by decide)]; simp only [Nat.reduceSub]; rw [la_w39, la_w48, la_w40, la_w53]; decide +kernel
theorem la_w56 : wAt lfaM 56 = 1422726554 := by rw [wAt_hi _ _ (by decide)]; simp only [Nat.reduceSub]; rw [la_w40, la_w49, la_w41, la_w54]; decide +kernel
theorem la_w57 : wAt lfaM 57 = 1346769633 := by rw [wAt_hi _ _ (by decide)]; simp only [Nat.reduceSub]; rw [la_w41, la_w50, la_w42, la_w55]; decide +kernel
theorem la_w58 : wAt lfaM 58 = 3883306500 := by rw [wAt_hi _ _ (by decide)]; simp only [Nat.reduceSub]; rw [la_w42, la_w51, la_w43, la_w56]; decide +kernel
theorem la_w59 : wAt lfaM 59 = 1466605196 := by rw [wAt_hi _ _ (by decide)]; simp only [Nat.reduceSub]; rw [la_w43, la_w52, la_w44, la_w57]; decide +kernel
theorem la_w60 : wAt lfaM 60 = 1198903426 := by rw [wAt_hi _ _ (by decide)]; simp only [Nat.reduceSub]; rw [la_w44, la_w53, la_w45, la_w58]; decide +kernel
theorem la_w61 : wAt lfaM 61 = 1030632483 := by rw [wAt_hi _ _ (by decide)]; simp only [Nat.reduceSub]; rw [la_w45, la_w54, la_w46, la_w59]; decide +kernel
theorem la_w62 : wAt lfaM 62 = 3842212249 := by rw [wAt_hi _ _ (by decide)]; simp only [Nat.reduceSub]; rw [la_w46, la_w55, la_w47, la_w60]; decide +kernel
theorem la_w63 : wAt lfaM 63 = 662850484 := by rw [wAt_hi _ _ (by decide)]; simp only [Nat.reduceSub]; rw [la_w47, la_w56, la_w48, la_w61]; decide +kernel
theorem la_s0 : runS (nth kList) (wAt lfaM) hSt 0 = ⟨1779033703, 3144134277, 1013904242, 2773480762, 1359893119, 2600822924, 528734635, 1541459225⟩ := rfl
theorem la_s1 : runS (nth kList) (wAt lfaM) hSt 1 = ⟨4234807373, 1779033703, 3144134277, 1013904242, 2569626274, 1359893119, 2600822924, 528734635⟩ := by rw [runS, la_s0, la_w0]; unfold stepS; simp only [St.mk.injEq]; decide +kernel
theorem la_s2 : runS (nth kList) (wAt lfaM) hSt 2 = ⟨2114862923, 4234807373, 1779033703, 3144134277, 717041094, 2569626274, 1359893119, 2600822924⟩ := by rw [runS, la_s1, la_w1]; unfold stepS; simp only [St.mk.injEq]; decide +kernel
theorem la_s3 : runS (nth kList) (wAt lfaM) hSt 3 = ⟨1142593479, 2114862923, 4234807373, 1779033703, 1683146146, 717041094, 2569626274, 1359893119⟩ := by rw [runS, la_s2, la_w2]; unfold stepS; simp only [St.mk.injEq]; decide +kernel
theorem la_s4 : runS (nth kList) (wAt lfaM) hSt 4 = ⟨2318015910, 1142593479, 2114862923, 4234807373, 1925598345, 1683146146, 717041094, 2569626274⟩ := by rw [runS, la_s3, la_w3]; unfold stepS; simp only [St.mk.injEq]; decide +kernel
theorem la_s5 : runS (nth kList) (wAt lfaM) hSt 5 = ⟨1217461213, 2318015910, 1142593479, 2114862923, 254318674, 1925598345, 1683146146, 717041094⟩ := by rw [runS, la_s4, la_w4]; unfold stepS; simp only [St.mk.injEq]; decide +kernel
theorem la_s6 : runS (nth kList) (wAt lfaM) hSt 6 = ⟨3563956965, 1217461213, 2318015910, 1142593479, 994065175, 254318674, 1925598345, 1683146146⟩ := by rw [runS, la_s5, la_w5]; unfold stepS; simp only [St.mk.injEq]; decide +kernel
theorem la_s7 : runS (nth kList) (wAt lfaM) hSt 7 = ⟨1022862016, 3563956965, 1217461213, 2318015910, 608903197, 994065175, 254318674, 1925598345⟩ := by rw [runS, la_s6, la_w6]; unfold stepS; simp only [St.mk.injEq]; decide +kernel
theorem la_s8 : runS (nth kList) (wAt lfaM) hSt 8 = ⟨3231042030, 1022862016, 3563956965, 1217461213, 638790865, 608903197, 994065175, 254318674⟩ := by rw [runS, la_s7, la_w7]; unfold stepS; simp only [St.mk.injEq]; decide +kernel
theorem la_s9 : runS (nth kList) (wAt lfaM) hSt 9 = ⟨2030621953, 3231042030, 1022862016, 3563956965, 1143953443, 638790865, 608903197, 994065175⟩ := by rw [runS, la_s8, la_w8]; unfold stepS; simp only [St.mk.injEq]; decide +kernel
theorem la_s10 : runS (nth kList) (wAt lfaM) hSt 10 = ⟨1586405888, 2030621953, 3231042030, 1022862016, 3846738499, 1143953443, 638790865, 608903197⟩ := by rw [runS, la_s9, la_w9]; unfold stepS; simp only [St.mk.injEq]; decide +kernel
theorem la_s11 : runS (nth kList) (wAt lfaM) hSt 11 = ⟨133082022, 1586405888, 2030621953, 3231042030, 2939170775, 3846738499, 1143953443, 638790865⟩ := by rw [runS, la_s10, la_w10]; unfold stepS; simp only [St.mk.injEq]; decide +kernel
theorem la_s12 : runS (nth kList) (wAt lfaM) hSt 12 = ⟨1652652775, 133082022, 1586405888, 2030621953, 1562612818, 2939170775, 3846738499, 1143953443⟩ := by rw [runS, la_s11, la_w11]; unfold stepS; simp only [St.mk.injEq]; decide +kernel
theorem la_s13 : runS (nth kList) (wAt lfaM) hSt 13 = ⟨139083989, 1652652775, 133082022, 1586405888, 810783736, 1562612818, 2939170775, 3846738499⟩ := by rw [runS, la_s12, la_w12]; unfold stepS; simp only [St.mk.injEq]; decide +kernel
theorem la_s14 : runS (nth kList) (wAt lfaM) hSt 14 = ⟨735947242, 139083989, 1652652775, 133082022, 434657981, 810783736, 1562612818, 2939170775⟩ := by rw [runS, la_s13, la_w13]; unfold stepS; simp only [St.mk.injEq]; decide +kernel
theorem la_s15 : runS (nth kList) (wAt lfaM) hSt 15 = ⟨3573847428, 735947242, 139083989, 1652652775, 4280826891, 434657981, 810783736, 1562612818⟩ := by rw [runS, la_s14, la_w14]; unfold stepS; simp only [St.mk.injEq]; decide +kernel
theorem la_s16 : runS (nth kList) (wAt lfaM) hSt 16 = ⟨123109804, 3573847428, 735947242, 139083989, 3579436222, 4280826891, 434657981, 810783736⟩ := by rw [runS, la_s15, la_w15]; unfold stepS; simp only [St.mk.injEq]; decide +kernel
theorem la_s17 : runS (nth kList) (wAt lfaM) hSt 17 = ⟨291625813, 123109804, 3573847428, 735947242, 3148115900, 3579436222, 4280826891, 434657981⟩ := by rw [runS, la_s16, la_w16]; unfold stepS; simp only [St.mk.injEq]; decide +kernel
theorem la_s18 : runS (nth kList) (wAt lfaM) hSt 18 = ⟨3840505234, 291625813, 123109804, 3573847428, 3789874266, 3148115900, 3579436222, 4280826891⟩ := by rw [runS, la_s17, la_w17]; unfold stepS; simp only [St.mk.injEq]; decide +kernel
theorem la_s19 : runS (nth kList) (wAt lfaM) hSt 19 = ⟨2100163766, 3840505234, 291625813, 123109804, 2622850794, 3789874266, 3148115900, 3579436222⟩ := by rw [runS, la_s18, la_w18]; unfold stepS; simp only [St.mk.injEq]; decide +kernel
theorem la_s20 : runS (nth kList) (wAt lfaM) hSt 20 = ⟨1036082077, 2100163766, 3840505234, 291625813, 1115920893, 2622850794, 3789874266, 3148115900⟩ := by rw [runS, la_s19, la_w19]; unfold stepS; simp only [St.mk.injEq]; decide +kernel
theorem la_s21 : runS (nth kList) (wAt lfaM) hSt 21 = ⟨979192192, 1036082077, 2100163766, 3840505234, 920511269, 1115920893, 2622850794, 3789874266⟩ := by rw [runS, la_s20, la_w20]; unfold stepS; simp only [St.mk.injEq]; decide +kernel
theorem la_s22 : runS (nth kList) (wAt lfaM) hSt 22 = ⟨3412570005, 979192192, 1036082077, 2100163766, 995314480, 920511269, 1115920893, 2622850794⟩ := by rw [runS, la_s21, la_w21]; unfold stepS; simp only [St.mk.injEq]; decide +kernel
theorem la_s23 : runS (nth kList) (wAt lfaM) hSt 23 = ⟨385284027, 3412570005, 979192192, 1036082077, 3356866791, 995314480, 920511269, 1115920893⟩ := by rw [runS, la_s22, la_w22]; unfold stepS; simp only [St.mk.injEq]; decide +kernel
theorem la_s24 : runS (nth kList) (wAt lfaM) hSt 24 = ⟨1089547077, 385284027, 3412570005, 979192192, 3229528399, 3356866791, 995314480, 920511269⟩ := by rw [runS, la_s23, la_w23]; unfold stepS; simp only [St.mk.injEq]; decide +kernel
theorem la_s25 : runS (nth kList) (wAt lfaM) hSt 25 = ⟨95737833, 1089547077, 385284027, 3412570005, 777984377, 3229528399, 3356866791, 995314480⟩ := by rw [runS, la_s24, la_w24]; unfold stepS; simp only [St.mk.injEq]; decide +kernel
theorem la_s26 : runS (nth kList) (wAt lfaM) hSt 26 = ⟨2187875320, 95737833, 1089547077, 385284027, 459296602, 777984377, 3229528399, 3356866791⟩ := by rw [runS, la_s25, la_w25]; unfold stepS; simp only [St.mk.injEq]; decide +kernel
theorem la_s27 : runS (nth kList) (wAt lfaM) hSt 27 = ⟨3276939752, 2187875320, 95737833, 1089547077, 3141984261, 459296602, 777984377, 3229528399⟩ := by rw [runS, la_s26, la_w26]; unfold stepS; simp only [St.mk.injEq]; decide +kernel
theorem la_s28 : runS (nth kList) (wAt lfaM) hSt 28 = ⟨1354425369, 3276939752, 2187875320, 95737833, 2535885200, 3141984261, 459296602, 777984377⟩ := by rw [runS, la_s27, la_w27]; unfold stepS; simp only [St.mk.injEq]; decide +kernel
theorem la_s29 : runS (nth kList) (wAt lfaM) hSt 29 = ⟨1028360058, 1354425369, 3276939752, 2187875320, 3776029656, 2535885200, 3141984261, 459296602⟩ := by rw [runS, la_s28, la_w28]; unfold stepS; simp only [St.mk.injEq]; decide +kernel
theorem la_s30 : runS (nth kList) (wAt lfaM) hSt 30 = ⟨1974184613, 1028360058, 1354425369, 3276939752, 203060654, 3776029656, 2535885200, 3141984261⟩ := by rw [runS, la_s29, la_w29]; unfold stepS; simp only [St.mk.injEq]; decide +kernel
theorem la_s31 : runS (nth kList) (wAt lfaM) hSt 31 = ⟨630673161, 1974184613, 1028360058, 1354425369, 3427924118, 203060654, 3776029656, 2535885200⟩ := by rw [runS, la_s30, la_w30]; unfold stepS; simp only [St.mk.injEq]; decide +kernel
theorem la_s32 : runS (nth kList) (wAt lfaM) hSt 32 = ⟨14923561, 630673161, 1974184613, 1028360058, 2952933419, 3427924118, 203060654, 3776029656⟩ := by rw [runS, la_s31, la_w31]; unfold stepS; simp only [St.mk.injEq]; decide +kernel
theorem la_s33 : runS (nth kList) (wAt lfaM) hSt 33 = ⟨2835388681, 14923561, 630673161, 1974184613, 1224483462, 2952933419, 3427924118, 203060654⟩ := by rw [runS, la_s32, la_w32]; unfold stepS; simp only [St.mk.injEq]; decide +kernel
theorem la_s34 : runS (nth kList) (wAt lfaM) hSt 34 = ⟨2776798017, 2835388681, 14923561, 630673161, 1497454075, 1224483462, 2952933419, 3427924118⟩ := by rw [runS, la_s33, la_w33]; unfold stepS; simp only [St.mk.injEq]; decide +kernel
theorem la_s35 : runS (nth kList) (wAt lfaM) hSt 35 = ⟨150117359, 2776798017, 2835388681, 14923561, 2481375645, 1497454075, 1224483462, 2952933419⟩ := by rw [runS, la_s34, la_w34]; unfold stepS; simp only [St.mk.injEq]; decide +kernel
theorem la_s36 : runS (nth kList) (wAt lfaM) hSt 36 = ⟨642395888, 150117359, 2776798017, 2835388681, 2793401732, 2481375645, 1497454075, 1224483462⟩ := by rw [runS, la_s35, la_w35]; unfold stepS; simp only [St.mk.injEq]; decide +kernel
theorem la_s37 : runS (nth kList) (wAt lfaM) hSt 37 = ⟨507956561, 642395888, 150117359, 2776798017, 1272729861, 2793401732, 2481375645, 1497454075⟩ := by rw [runS, la_s36, la_w36]; unfold stepS; simp only [St.mk.injEq]; decide +kernel
theorem la_s38 : runS (nth kList) (wAt lfaM) hSt 38 = ⟨3325171532, 507956561, 642395888, 150117359, 658904449, 1272729861, 2793401732, 2481375645⟩ := by rw [runS, la_s37, la_w37]; unfold stepS; simp only [St.mk.injEq]; decide +kernel
theorem la_s39 : runS (nth kList) (wAt lfaM) hSt 39 = ⟨3094166357, 3325171532, 507956561, 642395888, 2003189913, 658904449, 1272729861, 2793401732⟩ := by rw [runS, la_s38, la_w38]; unfold stepS; simp only [St.mk.injEq]; decide +kernel
theorem la_s40 : runS (nth kList) (wAt lfaM) hSt 40 = ⟨2089632278, 3094166357, 3325171532, 507956561, 68515412, 2003189913, 658904449, 1272729861⟩ := by rw [runS, la_s39, la_w39]; unfold stepS; simp only [St.mk.injEq]; decide +kernel
theorem la_s41 : runS (nth kList) (wAt lfaM) hSt 41 = ⟨1887742008, 2089632278, 3094166357, 3325171532, 3624236312, 68515412, 2003189913, 658904449⟩ := by rw [runS, la_s40, la_w40]; unfold stepS; simp only [St.mk.injEq]; decide +kernel
theorem la_s42 : runS (nth kList) (wAt lfaM) hSt 42 = ⟨2627917669, 1887742008, 2089632278, 3094166357, 2600826036, 3624236312, 68515412, 2003189913⟩ := by rw [runS, la_s41, la_w41]; unfold stepS; simp only [St.mk.injEq]; decide +kernel
theorem la_s43 : runS (nth kList) (wAt lfaM) hSt 43 = ⟨1682709350, 2627917669, 1887742008, 2089632278, 1222299082, 2600826036, 3624236312, 68515412⟩ := by rw [runS, la_s42, la_w42]; unfold stepS; simp only [St.mk.injEq]; decide +kernel
theorem la_s44 : runS (nth kList) (wAt lfaM) hSt 44 = ⟨2493391851, 1682709350, 2627917669, 1887742008, 710479221, 1222299082, 2600826036, 3624236312⟩ := by rw [runS, la_s43, la_w43]; unfold stepS; simp only [St.mk.injEq]; decide +kernel
theorem la_s45 : runS (nth kList) (wAt lfaM) hSt 45 = ⟨736293539, 2493391851, 1682709350, 2627917669, 2229601563, 710479221, 1222299082, 2600826036⟩ := by rw [runS, la_s44, la_w44]; unfold stepS; simp only [St.mk.injEq]; decide +kernel
theorem la_s46 : runS (nth kList) (wAt lfaM) hSt 46 = ⟨2577307588, 736293539, 2493391851, 1682709350, 1028115510, 2229601563, 710479221, 1222299082⟩ := by rw [runS, la_s45, la_w45]; unfold stepS; simp only [St.mk.injEq]; decide +kernel
theorem la_s47 : runS (nth kList) (wAt lfaM) hSt 47 = ⟨300555512, 2577307588, 736293539, 2493391851, 4202367256, 1028115510, 2229601563, 710479221⟩ := by rw [runS, la_s46, la_w46]; unfold stepS; simp only [St.mk.injEq]; decide +kernel
theorem la_s48 : runS (nth kList) (wAt lfaM) hSt 48 = ⟨606713436, 300555512, 2577307588, 736293539, 1393777470, 4202367256, 1028115510, 2229601563⟩ := by rw [runS, la_s47, la_w47]; unfold stepS; simp only [St.mk.injEq]; decide +kernel
theorem la_s49 : runS (nth kList) (wAt lfaM) hSt 49 = ⟨3453975361, 606713436, 300555512, 2577307588, 3404044990, 1393777470, 4202367256, 1028115510⟩ := by rw [runS, la_s48, la_w48]; unfold stepS; simp only [St.mk.injEq]; decide +kernel
theorem la_s50 : runS (nth kList) (wAt lfaM) hSt 50 = ⟨1886028213, 3453975361, 606713436, 300555512, 797516805, 3404044990, 1393777470, 4202367256⟩ := by rw [runS, la_s49, la_w49]; unfold stepS; simp only [St.mk.injEq]; decide +kernel
theorem la_s51 : runS (nth kList) (wAt lfaM) hSt 51 = ⟨3950790761, 1886028213, 3453975361, 606713436, 2638396180, 797516805, 3404044990, 1393777470⟩ := by rw [runS, la_s50, la_w50]; unfold stepS; simp only [St.mk.injEq]; decide +kernel
theorem la_s52 : runS (nth kList) (wAt lfaM) hSt 52 = ⟨4204769052, 3950790761, 1886028213, 3453975361, 1821978050, 2638396180, 797516805, 3404044990⟩ := by rw [runS, la_s51, la_w51]; unfold stepS; simp only [St.mk.injEq]; decide +kernel
theorem la_s53 : runS (nth kList) (wAt lfaM) hSt 53 = ⟨2888453000, 4204769052, 3950790761, 1886028213, 1183772860, 1821978050, 2638396180, 797516805⟩ := by rw [runS, la_s52, la_w52]; unfold stepS; simp only [St.mk.injEq]; decide +kernel
theorem la_s54 : runS (nth kList) (wAt lfaM) hSt 54 = ⟨3541449736, 2888453000, 4204769052, 3950790761, 2061541813, 1183772860, 1821978050, 2638396180⟩ := by rw [runS, la_s53, la_w53]; unfold stepS; simp only [St.mk.injEq]; decide +kernel
theorem la_s55 : runS (nth kList) (wAt lfaM) hSt 55 = ⟨3711578575, 3541449736, 2888453000, 4204769052, 1109726769, 2061541813, 1183772860, 1821978050⟩ := by rw [runS, la_s54, la_w54]; unfold stepS; simp only [St.mk.injEq]; decide +kernel
theorem la_s56 : runS (nth kList) (wAt lfaM) hSt 56 = ⟨2362008421, 3711578575, 3541449736, 2888453000, 406289955, 1109726769, 2061541813, 1183772860⟩ := by rw [runS, la_s55, la_w55]; unfold stepS; simp only [St.mk.injEq]; decide +kernel
theorem la_s57 : runS (nth kList) (wAt lfaM) hSt 57 = ⟨20694402, 2362008421, 3711578575, 3541449736, 1924675356, 406289955, 1109726769, 2061541813⟩ := by rw [runS, la_s56, la_w56]; unfold stepS; simp only [St.mk.injEq]; decide +kernel
theorem la_s58 : runS (nth kList) (wAt lfaM) hSt 58 = ⟨4075084426, 20694402, 2362008421, 3711578575, 4118201361, 1924675356, 406289955, 1109726769⟩ := by rw [runS, la_s57, la_w57]; unfold stepS; simp only [St.mk.injEq]; decide +kernel
theorem la_s59 : runS (nth kList) (wAt lfaM) hSt 59 = ⟨562898302, 4075084426, 20694402, 2362008421, 2186873212, 4118201361, 1924675356, 406289955⟩ := by rw [runS, la_s58, la_w58]; unfold stepS; simp only [St.mk.injEq]; decide +kernel
theorem la_s60 : runS (nth kList) (wAt lfaM) hSt 60 = ⟨2536270150, 562898302, 4075084426, 20694402, 1799375217, 2186873212, 4118201361, 1924675356⟩ := by rw [runS, la_s59, la_w59]; unfold stepS; simp only [St.mk.injEq]; decide +kernel
theorem la_s61 : runS (nth kList) (wAt lfaM) hSt 61 = ⟨1057982813, 2536270150, 562898302, 4075084426, 776219683, 1799375217, 2186873212, 4118201361⟩ := by rw [runS, la_s60, la_w60]; unfold stepS; simp only [St.mk.injEq]; decide +kernel
theorem la_s62 : runS (nth kList) (wAt lfaM) hSt 62 = ⟨511037555, 1057982813, 2536270150, 562898302, 2671645384, 776219683, 1799375217, 2186873212⟩ := by rw [runS, la_s61, la_w61]; unfold stepS; simp only [St.mk.injEq]; decide +kernel
theorem la_s63 : runS (nth kList) (wAt lfaM) hSt 63 = ⟨728959269, 511037555, 1057982813, 2536270150, 2593003905, 2671645384, 776219683, 1799375217⟩ := by rw [runS, la_s62, la_w62]; unfold stepS; simp only [St.mk.injEq]; decide +kernel
theorem la_s64 : runS (nth kList) (wAt lfaM) hSt 64 = ⟨2552267538, 728959269, 511037555, 1057982813, 537154919, 2593003905, 2671645384, 776219683⟩ := by rw [runS, la_s63, la_w63]; unfold stepS; simp only [St.mk.injEq]; decide +kernel
theorem la_mix : mixS (nth kList) hSt lfaM = ⟨36333945, 3873093546, 1524941797, 3831463575, 1897048038, 898859533, 3200380019, 2317678908⟩ := by unfold mixS; rw [la_s64]; unfold addS; simp only [St.mk.injEq]; decide +kernel
theorem la_dig : digL (bytesL lfaS) = [0, 97, 128, 0, 0, 0, 0, 0, 0, 0, 0, 0, 0, 0, 0, 0, 0, 0, 0, 0, 0, 0, 0, 0, 0, 0, 0, 0, 0, 0, 0, 0, 0, 0, 0, 0, 0, 0, 0, 0, 0, 0, 0, 0, 0, 0, 0, 0, 0, 0, 0, 0, 0, 0, 0, 0, 0, 0, 0, 0, 0, 0, 0, 16] := by decide +kernel
theorem la_words (x : Nat → Int) (hx : ∀ i, i < 64 → x i = nth [0, 97, 128, 0, 0, 0, 0, 0, 0, 0, 0, 0, 0, 0, 0, 0, 0, 0, 0, 0, 0, 0, 0, 0, 0, 0, 0, 0, 0, 0, 0, 0, 0, 0, 0, 0, 0, 0, 0, 0, 0, 0, 0, 0, 0, 0, 0, 0, 0, 0, 0, 0, 0, 0, 0, 0, 0, 0, 0, 0, 0, 0, 0, 16] i) : ∀ i, i < 16 → wordAt x (64 * 0 + 4 * i) = lfaM i := by
  intro i hi
  have h1 : wordAt x (64 * 0 + 4 * i) = wordAt (nth [0, 97, 128, 0, 0, 0, 0, 0, 0, 0, 0, 0, 0, 0, 0, 0, 0, 0, 0, 0, 0, 0, 0, 0, 0, 0, 0, 0, 0, 0, 0, 0, 0, 0, 0, 0, 0, 0, 0, 0, 0, 0, 0, 0, 0, 0, 0, 0, 0, 0, 0, 0, 0, 0, 0, 0, 0, 0, 0, 0, 0, 0, 0, 16]) (4 * i) := wordAt_congr _ _ _ _ fun j hj => by rw [hx _ (by omega)]; congr 1; omega
  rw [h1]
  have : ∀ i : Fin 16, wordAt (nth [0, 97, 128, 0, 0, 0, 0, 0, 0, 0, 0, 0, 0, 0, 0, 0, 0, 0, 0, 0, 0, 0, 0, 0, 0, 0, 0, 0, 0, 0, 0, 0, 0, 0, 0, 0, 0, 0, 0, 0, 0, 0, 0, 0, 0, 0, 0, 0, 0, 0, 0, 0, 0, 0, 0, 0, 0, 0, 0, 0, 0, 0, 0, 16]) (4 * i.val) = lfaM i.val := by decide +kernel
  exact this ⟨i, hi⟩
theorem lfa_sum : sumS (nth kList) hSt (bytesL lfaS) = ⟨#[2, 42, 105, 121, 230, 218, 183, 170, 90, 228, 195, 229, 228, 95, 126, 151, 113, 18, 167, 230, 53, 147, 130, 13, 190, 193, 236, 115, 138, 36, 249, 60]⟩ := by
  unfold sumS
  rw [la_dig]
  have h1 : foldB (nth kList) hSt (nth [0, 97, 128, 0, 0, 0, 0, 0, 0, 0, 0, 0, 0, 0, 0, 0, 0, 0, 0, 0, 0, 0, 0, 0, 0, 0, 0, 0, 0, 0, 0, 0, 0, 0, 0, 0, 0, 0, 0, 0, 0, 0, 0, 0, 0, 0, 0, 0, 0, 0, 0, 0, 0, 0, 0, 0, 0, 0, 0, 0, 0, 0, 0, 16]) 1 = ⟨36333945, 3873093546, 1524941797, 3831463575, 1897048038, 898859533, 3200380019, 2317678908⟩ := by
    show mixS (nth kList) hSt (fun i => wordAt _ (64 * 0 + 4 * i)) = _
    rw [mixS_congr _ _ _ lfaM (la_words _ (fun _ _ => rfl)), la_mix]
  rw [show ([0, 97, 128, 0, 0, 0, 0, 0, 0, 0, 0, 0, 0, 0, 0, 0, 0, 0, 0, 0, 0, 0, 0, 0, 0, 0, 0, 0, 0, 0, 0, 0, 0, 0, 0, 0, 0, 0, 0, 0, 0, 0, 0, 0, 0, 0, 0, 0, 0, 0, 0, 0, 0, 0, 0, 0, 0, 0, 0, 0, 0, 0, 0, 16] : List Int).length / 64 = 1 from by decide, h1]
  decide +kernel
def lfbS : ByteArray := ⟨#[0, 98]⟩
def lfbM : Nat → Int := nth [6455296, 0, 0, 0, 0, 0, 0, 0, 0, 0, 0, 0, 0, 0, 0, 16]
theorem lb_w0 : wAt lfbM 0 = 6455296 := by rw [wAt_lo _ _ (by decide)]; decide +kernel
theorem lb_w1 : wAt lfbM 1 = 0 := by rw [wAt_lo _ _ (by decide)]; decide +kernel
theorem lb_w2 : wAt lfbM 2 = 0 := by rw [wAt_lo _ _ (by decide)]; decide +kernel
theorem lb_w3 : wAt lfbM 3 = 0 := by rw [wAt_lo _ _ (by decide)]; decide +kernel
theorem lb_w4 : wAt lfbM 4 = 0 := by rw [wAt_lo _ _ (by decide)]; decide +kernel
theorem lb_w5 : wAt lfbM 5 = 0 := by rw [wAt_lo _ _ (by decide)]; decide +kernel
theorem lb_w6 : wAt lfbM 6 = 0 := by rw [wAt_lo _ _ (by decide)]; decide +kernel
theorem lb_w7 : wAt lfbM 7 = 0 := by rw [wAt_lo _ _ (by decide)]; decide +kernel
theorem lb_w8 : wAt lfbM 8 = 0 := by rw [wAt_lo _ _ (by decide)]; decide +kernel
theorem lb_w9 : wAt lfbM 9 = 0 := by rw [wAt_lo _ _ (by decide)]; decide +kernel
theorem lb_w10 : wAt lfbM 10 = 0 := by rw [wAt_lo _ _ (by decide)]; decide +kernel
theorem lb_w11 : wAt lfbM 11 = 0 := by rw [wAt_lo _ _ (by decide)]; decide +kernel
theorem lb_w12 : wAt lfbM 12 = 0 := by rw [wAt_lo _ _ (by decide)]; decide +kernel
theorem lb_w13 : wAt lfbM 13 = 0 := by rw [wAt_lo _ _ (by decide)]; decide +kernel
theorem lb_w14 : wAt lfbM 14 = 0 := by rw [wAt_lo _ _ (by decide)]; decide +kernel
theorem lb_w15 : wAt lfbM 15 = 16 := by rw [wAt_lo _ _ (by decide)]; decide +kernel
theorem lb_w16 : wAt lfbM 16 = 6455296 := by rw [wAt_hi _ _ (by decide)]; simp only [Nat.reduceSub]; rw [lb_w0, lb_w9, lb_w1, lb_w14]; decide +kernel
theorem lb_w17 : wAt lfbM 17 = 655360 := by rw [wAt_hi _ _ (by decide)]; simp only [Nat.reduceSub]; rw [lb_w1, lb_w10, lb_w2, lb_w15]; decide +kernel
theorem lb_w18 : wAt lfbM 18 = 268441757 := by rw [wAt_hi _ _ (by decide)]; simp only [Nat.reduceSub]; rw [lb_w2, lb_w11, lb_w3, lb_w16]; decide +kernel
theorem lb_w19 : wAt lfbM 19 = 1073742468 := by rw [wAt_hi _ _ (by decide)]; simp only [Nat.reduceSub]; rw [lb_w3, lb_w12, lb_w4, lb_w17]; decide +kernel
theorem lb_w20 : wAt lfbM 20 = 257501702 := by rw [wAt_hi _ _ (by decide)]; simp only [Nat.reduceSub]; rw [lb_w4, lb_w13, lb_w5, lb_w18]; decide +kernel
theorem lb_w21 : wAt lfbM 21 = 16951296 := by rw [wAt_hi _ _ (by decide)]; simp only [Nat.reduceSub]; rw [lb_w5, lb_w14, lb_w6, lb_w19]; decide +kernel
theorem lb_w22 : wAt lfbM 22 = 2956988445 := by rw [wAt_hi _ _ (by decide)]; simp only [Nat.reduceSub]; rw [lb_w6, lb_w15, lb_w7, lb_w20]; decide +kernel
theorem lb_w23 : wAt lfbM 23 = 23248907 := by rw [wAt_hi _ _ (by decide)]; simp only [Nat.reduceSub]; rw [lb_w7, lb_w16, lb_w8, lb_w21]; decide +kernel
theorem lb_w24 : wAt lfbM 24 = 170622508 := by rw [wAt_hi _ _ (by decide)]; simp only [Nat.reduceSub]; rw [lb_w8, lb_w17, lb_w9, lb_w22]; decide +kernel
theorem lb_w25 : wAt lfbM 25 = 1208275146 := by rw [wAt_hi _ _ (by decide)]; simp only [Nat.reduceSub]; rw [lb_w9, lb_w18, lb_w10, lb_w23]; decide +kernel
theorem lb_w26 : wAt lfbM 26 = 282136851 := by rw [wAt_hi _ _ (by decide)]; simp only [Nat.reduceSub]; rw [lb_w10, lb_w19, lb_w11, lb_w24]; decide +kernel
theorem lb_w27 : wAt lfbM 27 = 29857340 := by rw [wAt_hi _ _ (by decide)]; simp only [Nat.reduceSub]; rw [lb_w11, lb_w20, lb_w12, lb_w25]; decide +kernel
theorem lb_w28 : wAt lfbM 28 = 2880603702 := by rw [wAt_hi _ _ (by decide)]; simp only [Nat.reduceSub]; rw [lb_w12, lb_w21, lb_w13, lb_w26]; decide +kernel
theorem lb_w29 : wAt lfbM 29 = 3927572827 := by rw [wAt_hi _ _ (by decide)]; simp only [Nat.reduceSub]; rw [lb_w13, lb_w22, lb_w14, lb_w27]; decide +kernel
theorem lb_w30 : wAt lfbM 30 = 895364123 := by rw [wAt_hi _ _ (by decide)]; simp only [Nat.reduceSub]; rw [lb_w14, lb_w23, lb_w15, lb_w28]; decide +kernel
theorem lb_w31 : wAt lfbM 31 = 3941868066 := by rw [wAt_hi _ _ (by decide)]; simp only [Nat.reduceSub]; rw [lb_w15, lb_w24, lb_w16, lb_w29]; decide +kernel
theorem lb_w32 : wAt lfbM 32 = 2615955547 := by rw [wAt_hi _ _ (by decide)]; simp only [Nat.reduceSub]; rw [lb_w16, lb_w25, lb_w17, lb_w30]; decide +kernel
theorem lb_w33 : wAt lfbM 33 = 3830574433 := by rw [wAt_hi _ _ (by decide)]; simp only [Nat.reduceSub]; rw [lb_w17, lb_w26, lb_w18, lb_w31]; decide +kernel
theorem lb_w34 : wAt lfbM 34 = 3018392781 := by rw [wAt_hi _ _ (by decide)]; simp only [Nat.reduceSub]; rw [lb_w18, lb_w27, lb_w19, lb_w32]; decide +kernel
theorem lb_w35 : wAt lfbM 35 = 4266424405 := by rw [wAt_hi _ _ (by decide)]; simp only [Nat.reduceSub]; rw [lb_w19, lb_w28, lb_w20, lb_w33]; decide +kernel
theorem lb_w36 : wAt lfbM 36 = 1181290809 := by rw [wAt_hi _ _ (by decide)]; simp only [Nat.reduceSub]; rw [lb_w20, lb_w29, lb_w21, lb_w34]; decide +kernel
theorem lb_w37 : wAt lfbM 37 = 317756991 := by rw [wAt_hi _ _ (by decide)]; simp only [Nat.reduceSub]; rw [lb_w21, lb_w30, lb_w22, lb_w35]; decide +kernel
theorem lb_w38 : wAt lfbM 38 = 3960119765 := by rw [wAt_hi _ _ (by decide)]; simp only [Nat.reduceSub]; rw [lb_w22, lb_w31, lb_w23, lb_w36]; decide +kernel
theorem lb_w39 : wAt lfbM 39 = 2114331420 := by rw [wAt_hi _ _ (by decide)]; simp only [Nat.reduceSub]; rw [lb_w23, lb_w32, lb_w24, lb_w37]; decide +kernel
theorem lb_w40 : wAt lfbM 40 = 2634724978 := by rw [wAt_hi _ _ (by decide)]; simp only [Nat.reduceSub]; rw [lb_w24, lb_w33, lb_w25, lb_w38]; decide +kernel
theorem lb_w41 : wAt lfbM 41 = 845105942 := by rw [wAt_hi _ _ (by decide)]; simp only [Nat.reduceSub]; rw [lb_w25, lb_w34, lb_w26, lb_w39]; decide +kernel
theorem lb_w42 : wAt lfbM 42 = 3131205259 := by rw [wAt_hi _ _ (by decide)]; simp only [Nat.reduceSub]; rw [lb_w26, lb_w35, lb_w27, lb_w40]; decide +kernel
theorem lb_w43 : wAt lfbM 43 = 1858244433 := by rw [wAt_hi _ _ (by decide)]; simp only [Nat.reduceSub]; rw [lb_w27, lb_w36, lb_w28, lb_w41]; decide +kernel
theorem lb_w44 : wAt lfbM 44 = 1763618240 := by rw [wAt_hi _ _ (by decide)]; simp only [Nat.reduceSub]; rw [lb_w28, lb_w37, lb_w29, lb_w42]; decide +kernel
theorem lb_w45 : wAt lfbM 45 = 2823127510 := by rw [wAt_hi _ _ (by decide)]; simp only [Nat.reduceSub]; rw [lb_w29, lb_w38, lb_w30, lb_w43]; decide +kernel
theorem lb_w46 : wAt lfbM 46 = 2259330043 := by rw [wAt_hi _ _ (by decide)]; simp only [Nat.reduceSub]; rw [lb_w30, lb_w39, lb_w31, lb_w44]; decide +kernel
theorem lb_w47 : wAt lfbM 47 = 2841058606 := by rw [wAt_hi _ _ (by decide)]; simp only [Nat.reduceSub]; rw [lb_w31, lb_w40, lb_w32, lb_w45]; decide +kernel
theorem lb_w48 : wAt lfbM 48 = 2013895675 := by rw [wAt_hi _ _ (by decide)]; simp only [Nat.reduceSub]; rw [lb_w32, lb_w41, lb_w33, lb_w46]; decide +kernel
theorem lb_w49 : wAt lfbM 49 = 3627468444 := by rw [wAt_hi _ _ (by decide)]; simp only [Nat.reduceSub]; rw [lb_w33, lb_w42, lb_w34, lb_w47]; decide +kernel
theorem lb_w50 : wAt lfbM 50 = 3412643306 := by rw [wAt_hi _ _ (by decide)]; simp only [Nat.reduceSub]; rw [lb_w34, lb_w43, lb_w35, lb_w48]; decide +kernel
theorem lb_w51 : wAt lfbM 51 = 1629930080 := by rw [wAt_hi _ _ (by decide)]; simp only [Nat.reduceSub]; rw [lb_w35, lb_w44, lb_w36, lb_w49]; decide +kernel
theorem lb_w52 : wAt lfbM 52 = 3357389136 := by rw [wAt_hi _ _ (by decide)]; simp only [Nat.reduceSub]; rw [lb_w36, lb_w45, lb_w37, lb_w50]; decide +kernel
theorem lb_w53 : wAt lfbM 53 = 1898703292 := by rw [wAt_hi _ _ (by decide)]; simp only [Nat.reduceSub]; rw [lb_w37, lb_w46, lb_w38, lb_w51]; decide +kernel
theorem lb_w54 : wAt lfbM 54 = 3289256200 := by rw [wAt_hi _ _ (by decide)]; simp only [Nat.reduceSub]; rw [lb_w38, lb_w47, lb_w39, lb_w52]; decide +kernel
theorem lb_w55 : wAt lfbM 55 = 3675103297 := by rw [wAt_hi _ _ (by decide)]; simp only [Nat.reduceSub]; rw [lb_w39, lb_w48, lb_w40, lb_w53]; decide +kernel
theorem lb_w56 : wAt lfbM 56 = 952160627 := by rw [wAt_hi _ _ (by decide)]; simp only [Nat.reduceSub]; rw [lb_w40, lb_w49, lb_w41, lb_w54]; decide +kernel
theorem lb_w57 : wAt lfbM 57 = 4218033475 := by rw [wAt_hi _ _ (by decide)]; simp only [Nat.reduceSub]; rw [lb_w41, lb_w50, lb_w42, lb_w55]; decide +kernel
theorem lb_w58 : wAt lfbM 58 = 2603910011 := by rw [wAt_hi _ _ (by decide)]; simp only [Nat.reduceSub]; rw [lb_w42, lb_w51, lb_w43, lb_w56]; decide +kernel
theorem lb_w59 : wAt lfbM 59 = 2778303394 := by rw [wAt_hi _ _ (by decide)]; simp only [Nat.reduceSub]; rw [lb_w43, lb_w52, lb_w44, lb_w57]; decide +kernel
theorem lb_w60 : wAt lfbM 60 = 2221710464 := by rw [wAt_hi _ _ (by decide)]; simp only [Nat.reduceSub]; rw [lb_w44, lb_w53, lb_w45, lb_w58]; decide +kernel
theorem lb_w61 : wAt lfbM 61 = 2953237389 := by rw [wAt_hi _ _ (by decide)]; simp only [Nat.reduceSub]; rw [lb_w45, lb_w54, lb_w46, lb_w59]; decide +kernel
theorem lb_w62 : wAt lfbM 62 = 3470620066 := by rw [wAt_hi _ _ (by decide)]; simp only [Nat.reduceSub]; rw [lb_w46, lb_w55, lb_w47, lb_w60]; decide +kernel
theorem lb_w63 : wAt lfbM 63 = 885218466 := by rw [wAt_hi _ _ (by decide)]; simp only [Nat.reduceSub]; rw [lb_w47, lb_w56, lb_w48, lb_w61]; decide +kernel
theorem lb_s0 : runS (nth kList) (wAt lfbM) hSt 0 = ⟨1779033703, 3144134277, 1013904242, 2773480762, 1359893119, 2600822924, 528734635, 1541459225⟩ := rfl
theorem lb_s1 : runS (nth kList) (wAt lfbM) hSt 1 = ⟨4234872909, 1779033703, 3144134277, 1013904242, 2569691810, 1359893119, 2600822924, 528734635⟩ := by rw [runS, lb_s0, lb_w0]; unfold stepS; simp only [St.mk.injEq]; decide +kernel
theorem lb_s2 : runS (nth kList) (wAt lfbM) hSt 2 = ⟨2056325875, 4234872909, 1779033703, 3144134277, 725629286, 2569691810, 1359893119, 2600822924⟩ := by rw [runS, lb_s1, lb_w1]; unfold stepS; simp only [St.mk.injEq]; decide +kernel
theorem lb_s3 : runS (nth kList) (wAt lfbM) hSt 3 = ⟨90638546, 2056325875, 4234872909, 1779033703, 2041663762, 725629286, 2569691810, 1359893119⟩ := by rw [runS, lb_s2, lb_w2]; unfold stepS; simp only [St.mk.injEq]; decide +kernel
theorem lb_s4 : runS (nth kList) (wAt lfbM) hSt 4 = ⟨1864205828, 90638546, 2056325875, 4234872909, 14271103, 2041663762, 725629286, 2569691810⟩ := by rw [runS, lb_s3, lb_w3]; unfold stepS; simp only [St.mk.injEq]; decide +kernel
theorem lb_s5 : runS (nth kList) (wAt lfbM) hSt 5 = ⟨2854614371, 1864205828, 90638546, 2056325875, 3649038861, 14271103, 2041663762, 725629286⟩ := by rw [runS, lb_s4, lb_w4]; unfold stepS; simp only [St.mk.injEq]; decide +kernel
theorem lb_s6 : runS (nth kList) (wAt lfbM) hSt 6 = ⟨1956518992, 2854614371, 1864205828, 90638546, 3922198562, 3649038861, 14271103, 2041663762⟩ := by rw [runS, lb_s5, lb_w5]; unfold stepS; simp only [St.mk.injEq]; decide +kernel
theorem lb_s7 : runS (nth kList) (wAt lfbM) hSt 7 = ⟨926389501, 1956518992, 2854614371, 1864205828, 1185654617, 3922198562, 3649038861, 14271103⟩ := by rw [runS, lb_s6, lb_w6]; unfold stepS; simp only [St.mk.injEq]; decide +kernel
theorem lb_s8 : runS (nth kList) (wAt lfbM) hSt 8 = ⟨3429072242, 926389501, 1956518992, 2854614371, 3503408806, 1185654617, 3922198562, 3649038861⟩ := by rw [runS, lb_s7, lb_w7]; unfold stepS; simp only [St.mk.injEq]; decide +kernel
theorem lb_s9 : runS (nth kList) (wAt lfbM) hSt 9 = ⟨2352856277, 3429072242, 926389501, 1956518992, 3971030610, 3503408806, 1185654617, 3922198562⟩ := by rw [runS, lb_s8, lb_w8]; unfold stepS; simp only [St.mk.injEq]; decide +kernel
theorem lb_s10 : runS (nth kList) (wAt lfbM) hSt 10 = ⟨2546963255, 2352856277, 3429072242, 926389501, 216373674, 3971030610, 3503408806, 1185654617⟩ := by rw [runS, lb_s9, lb_w9]; unfold stepS; simp only [St.mk.injEq]; decide +kernel
theorem lb_s11 : runS (nth kList) (wAt lfbM) hSt 11 = ⟨96513365, 2546963255, 2352856277, 3429072242, 1854210029, 216373674, 3971030610, 3503408806⟩ := by rw [runS, lb_s10, lb_w10]; unfold stepS; simp only [St.mk.injEq]; decide +kernel
theorem lb_s12 : runS (nth kList) (wAt lfbM) hSt 12 = ⟨1815552662, 96513365, 2546963255, 2352856277, 2304741740, 1854210029, 216373674, 3971030610⟩ := by rw [runS, lb_s11, lb_w11]; unfold stepS; simp only [St.mk.injEq]; decide +kernel
theorem lb_s13 : runS (nth kList) (wAt lfbM) hSt 13 = ⟨4119694698, 1815552662, 96513365, 2546963255, 684635772, 2304741740, 1854210029, 216373674⟩ := by rw [runS, lb_s12, lb_w12]; unfold stepS; simp only [St.mk.injEq]; decide +kernel
theorem lb_s14 : runS (nth kList) (wAt lfbM) hSt 14 = ⟨2048349414, 4119694698, 1815552662, 96513365, 3428832743, 684635772, 2304741740, 1854210029⟩ := by rw [runS, lb_s13, lb_w13]; unfold stepS; simp only [St.mk.injEq]; decide +kernel
theorem lb_s15 : runS (nth kList) (wAt lfbM) hSt 15 = ⟨13517724, 2048349414, 4119694698, 1815552662, 630345632, 3428832743, 684635772, 2304741740⟩ := by rw [runS, lb_s14, lb_w14]; unfold stepS; simp only [St.mk.injEq]; decide +kernel
theorem lb_s16 : runS (nth kList) (wAt lfbM) hSt 16 = ⟨2877083861, 13517724, 2048349414, 4119694698, 2168899303, 630345632, 3428832743, 684635772⟩ := by rw [runS, lb_s15, lb_w15]; unfold stepS; simp only [St.mk.injEq]; decide +kernel
theorem lb_s17 : runS (nth kList) (wAt lfbM) hSt 17 = ⟨2249048626, 2877083861, 13517724, 2048349414, 839632202, 2168899303, 630345632, 3428832743⟩ := by rw [runS, lb_s16, lb_w16]; unfold stepS; simp only [St.mk.injEq]; decide +kernel
theorem lb_s18 : runS (nth kList) (wAt lfbM) hSt 18 = ⟨1335100753, 2249048626, 2877083861, 13517724, 3225357481, 839632202, 2168899303, 630345632⟩ := by rw [runS, lb_s17, lb_w17]; unfold stepS; simp only [St.mk.injEq]; decide +kernel
theorem lb_s19 : runS (nth kList) (wAt lfbM) hSt 19 = ⟨754283679, 1335100753, 2249048626, 2877083861, 1965866784, 3225357481, 839632202, 2168899303⟩ := by rw [runS, lb_s18, lb_w18]; unfold stepS; simp only [St.mk.injEq]; decide +kernel
theorem lb_s20 : runS (nth kList) (wAt lfbM) hSt 20 = ⟨3820210500, 754283679, 1335100753, 2249048626, 3330609095, 1965866784, 3225357481, 839632202⟩ := by rw [runS, lb_s19, lb_w19]; unfold stepS; simp only [St.mk.injEq]; decide +kernel
theorem lb_s21 : runS (nth kList) (wAt lfbM) hSt 21 = ⟨2257949690, 3820210500, 754283679, 1335100753, 3741258902, 3330609095, 1965866784, 3225357481⟩ := by rw [runS, lb_s20, lb_w20]; unfold stepS; simp only [St.mk.injEq]; decide +kernel
theorem lb_s22 : runS (nth kList) (wAt lfbM) hSt 22 = ⟨3092962814, 2257949690, 3820210500, 754283679, 4177155881, 3741258902, 3330609095, 1965866784⟩ := by rw [runS, lb_s21, lb_w21]; unfold stepS; simp only [St.mk.injEq]; decide +kernel
theorem lb_s23 : runS (nth kList) (wAt lfbM) hSt 23 = ⟨1849451023, 3092962814, 2257949690, 3820210500, 3456724328, 4177155881, 3741258902, 3330609095⟩ := by rw [runS, lb_s22, lb_w22]; unfold stepS; simp only [St.mk.injEq]; decide +kernel
theorem lb_s24 : runS (nth kList) (wAt lfbM) hSt 24 = ⟨185608255, 1849451023, 3092962814, 2257949690, 103467181, 3456724328, 4177155881, 3741258902⟩ := by rw [runS, lb_s23, lb_w23]; unfold stepS; simp only [St.mk.injEq]; decide +kernel
theorem lb_s25 : runS (nth kList) (wAt lfbM) hSt 25 = ⟨584225557, 185608255, 1849451023, 3092962814, 3149074478, 103467181, 3456724328, 4177155881⟩ := by rw [runS, lb_s24, lb_w24]; unfold stepS; simp only [St.mk.injEq]; decide +kernel
theorem lb_s26 : runS (nth kList) (wAt lfbM) hSt 26 = ⟨1517228612, 584225557, 185608255, 1849451023, 1315432265, 3149074478, 103467181, 3456724328⟩ := by rw [runS, lb_s25, lb_w25]; unfold stepS; simp only [St.mk.injEq]; decide +kernel
theorem lb_s27 : runS (nth kList) (wAt lfbM) hSt 27 = ⟨3694051146, 1517228612, 584225557, 185608255, 120129732, 1315432265, 3149074478, 103467181⟩ := by rw [runS, lb_s26, lb_w26]; unfold stepS; simp only [St.mk.injEq]; decide +kernel
theorem lb_s28 : runS (nth kList) (wAt lfbM) hSt 28 = ⟨1948650294, 3694051146, 1517228612, 584225557, 757545562, 120129732, 1315432265, 3149074478⟩ := by rw [runS, lb_s27, lb_w27]; unfold stepS; simp only [St.mk.injEq]; decide +kernel
theorem lb_s29 : runS (nth kList) (wAt lfbM) hSt 29 = ⟨3738737187, 1948650294, 3694051146, 1517228612, 1223038917, 757545562, 120129732, 1315432265⟩ := by rw [runS, lb_s28, lb_w28]; unfold stepS; simp only [St.mk.injEq]; decide +kernel
theorem lb_s30 : runS (nth kList) (wAt lfbM) hSt 30 = ⟨3704157373, 3738737187, 1948650294, 3694051146, 373886120, 1223038917, 757545562, 120129732⟩ := by rw [runS, lb_s29, lb_w29]; unfold stepS; simp only [St.mk.injEq]; decide +kernel
theorem lb_s31 : runS (nth kList) (wAt lfbM) hSt 31 = ⟨1282166380, 3704157373, 3738737187, 1948650294, 1522812772, 373886120, 1223038917, 757545562⟩ := by rw [runS, lb_s30, lb_w30]; unfold stepS; simp only [St.mk.injEq]; decide +kernel
theorem lb_s32 : runS (nth kList) (wAt lfbM) hSt 32 = ⟨208942641, 1282166380, 3704157373, 3738737187, 3532693874, 1522812772, 373886120, 1223038917⟩ := by rw [runS, lb_s31, lb_w31]; unfold stepS; simp only [St.mk.injEq]; decide +kernel
theorem lb_s33 : runS (nth kList) (wAt lfbM) hSt 33 = ⟨2135771870, 208942641, 1282166380, 3704157373, 4016817320, 3532693874, 1522812772, 373886120⟩ := by rw [runS, lb_s32, lb_w32]; unfold stepS; simp only [St.mk.injEq]; decide +kernel
theorem lb_s34 : runS (nth kList) (wAt lfbM) hSt 34 = ⟨3337933918, 2135771870, 208942641, 1282166380, 1531292031, 4016817320, 3532693874, 1522812772⟩ := by rw [runS, lb_s33, lb_w33]; unfold stepS; simp only [St.mk.injEq]; decide +kernel
theorem lb_s35 : runS (nth kList) (wAt lfbM) hSt 35 = ⟨2794245146, 3337933918, 2135771870, 208942641, 3832171134, 1531292031, 4016817320, 3532693874⟩ := by rw [runS, lb_s34, lb_w34]; unfold stepS; simp only [St.mk.injEq]; decide +kernel
theorem lb_s36 : runS (nth kList) (wAt lfbM) hSt 36 = ⟨3520203074, 2794245146, 3337933918, 2135771870, 4247979291, 3832171134, 1531292031, 4016817320⟩ := by rw [runS, lb_s35, lb_w35]; unfold stepS; simp only [St.mk.injEq]; decide +kernel
theorem lb_s37 : runS (nth kList) (wAt lfbM) hSt 37 = ⟨1399565598, 3520203074, 2794245146, 3337933918, 1436361755, 4247979291, 3832171134, 1531292031⟩ := by rw [runS, lb_s36, lb_w36]; unfold stepS; simp only [St.mk.injEq]; decide +kernel
theorem lb_s38 : runS (nth kList) (wAt lfbM) hSt 38 = ⟨556333575, 1399565598, 3520203074, 2794245146, 3250010100, 1436361755, 4247979291, 3832171134⟩ := by rw [runS, lb_s37, lb_w37]; unfold stepS; simp only [St.mk.injEq]; decide +kernel
theorem lb_s39 : runS (nth kList) (wAt lfbM) hSt 39 = ⟨3537354301, 556333575, 1399565598, 3520203074, 1818146319, 3250010100, 1436361755, 4247979291⟩ := by rw [runS, lb_s38, lb_w38]; unfold stepS; simp only [St.mk.injEq]; decide +kernel
theorem lb_s40 : runS (nth kList) (wAt lfbM) hSt 40 = ⟨1633275424, 3537354301, 556333575, 1399565598, 68979402, 1818146319, 3250010100, 1436361755⟩ := by rw [runS, lb_s39, lb_w39]; unfold stepS; simp only [St.mk.injEq]; decide +kernel
theorem lb_s41 : runS (nth kList) (wAt lfbM) hSt 41 = ⟨1241843212, 1633275424, 3537354301, 556333575, 766032962, 68979402, 1818146319, 3250010100⟩ := by rw [runS, lb_s40, lb_w40]; unfold stepS; simp only [St.mk.injEq]; decide +kernel
theorem lb_s42 : runS (nth kList) (wAt lfbM) hSt 42 = ⟨2928499011, 1241843212, 1633275424, 3537354301, 1449501851, 766032962, 68979402, 1818146319⟩ := by rw [runS, lb_s41, lb_w41]; unfold stepS; simp only [St.mk.injEq]; decide +kernel
theorem lb_s43 : runS (nth kList) (wAt lfbM) hSt 43 = ⟨961472601, 2928499011, 1241843212, 1633275424, 2369661974, 1449501851, 766032962, 68979402⟩ := by rw [runS, lb_s42, lb_w42]; unfold stepS; simp only [St.mk.injEq]; decide +kernel
theorem lb_s44 : runS (nth kList) (wAt lfbM) hSt 44 = ⟨137089296, 961472601, 2928499011, 1241843212, 138232419, 2369661974, 1449501851, 766032962⟩ := by rw [runS, lb_s43, lb_w43]; unfold stepS; simp only [St.mk.injEq]; decide +kernel
theorem lb_s45 : runS (nth kList) (wAt lfbM) hSt 45 = ⟨4086728805, 137089296, 961472601, 2928499011, 4022124518, 138232419, 2369661974, 1449501851⟩ := by rw [runS, lb_s44, lb_w44]; unfold stepS; simp only [St.mk.injEq]; decide +kernel
theorem lb_s46 : runS (nth kList) (wAt lfbM) hSt 46 = ⟨901355226, 4086728805, 137089296, 961472601, 1162641001, 4022124518, 138232419, 2369661974⟩ := by rw [runS, lb_s45, lb_w45]; unfold stepS; simp only [St.mk.injEq]; decide +kernel
theorem lb_s47 : runS (nth kList) (wAt lfbM) hSt 47 = ⟨852959688, 901355226, 4086728805, 137089296, 1552275749, 1162641001, 4022124518, 138232419⟩ := by rw [runS, lb_s46, lb_w46]; unfold stepS; simp only [St.mk.injEq]; decide +kernel
theorem lb_s48 : runS (nth kList) (wAt lfbM) hSt 48 = ⟨779850525, 852959688, 901355226, 4086728805, 2761712997, 1552275749, 1162641001, 4022124518⟩ := by rw [runS, lb_s47, lb_w47]; unfold stepS; simp only [St.mk.injEq]; decide +kernel
theorem lb_s49 : runS (nth kList) (wAt lfbM) hSt 49 = ⟨2944090217, 779850525, 852959688, 901355226, 786059604, 2761712997, 1552275749, 1162641001⟩ := by rw [runS, lb_s48, lb_w48]; unfold stepS; simp only [St.mk.injEq]; decide +kernel
theorem lb_s50 : runS (nth kList) (wAt lfbM) hSt 50 = ⟨2071699792, 2944090217, 779850525, 852959688, 4247267684, 786059604, 2761712997, 1552275749⟩ := by rw [runS, lb_s49, lb_w49]; unfold stepS; simp only [St.mk.injEq]; decide +kernel
theorem lb_s51 : runS (nth kList) (wAt lfbM) hSt 51 = ⟨3517386555, 2071699792, 2944090217, 779850525, 3660201286, 4247267684, 786059604, 2761712997⟩ := by rw [runS, lb_s50, lb_w50]; unfold stepS; simp only [St.mk.injEq]; decide +kernel
theorem lb_s52 : runS (nth kList) (wAt lfbM) hSt 52 = ⟨3944759254, 3517386555, 2071699792, 2944090217, 211103690, 3660201286, 4247267684, 786059604⟩ := by rw [runS, lb_s51, lb_w51]; unfold stepS; simp only [St.mk.injEq]; decide +kernel
theorem lb_s53 : runS (nth kList) (wAt lfbM) hSt 53 = ⟨2227412099, 3944759254, 3517386555, 2071699792, 1956356162, 211103690, 3660201286, 4247267684⟩ := by rw [runS, lb_s52, lb_w52]; unfold stepS; simp only [St.mk.injEq]; decide +kernel
theorem lb_s54 : runS (nth kList) (wAt lfbM) hSt 54 = ⟨1697433153, 2227412099, 3944759254, 3517386555, 329677007, 1956356162, 211103690, 3660201286⟩ := by rw [runS, lb_s53, lb_w53]; unfold stepS; simp only [St.mk.injEq]; decide +kernel
theorem lb_s55 : runS (nth kList) (wAt lfbM) hSt 55 = ⟨3396503209, 1697433153, 2227412099, 3944759254, 3735017919, 329677007, 1956356162, 211103690⟩ := by rw [runS, lb_s54, lb_w54]; unfold stepS; simp only [St.mk.injEq]; decide +kernel
theorem lb_s56 : runS (nth kList) (wAt lfbM) hSt 56 = ⟨1542457303, 3396503209, 1697433153, 2227412099, 4108676117, 3735017919, 329677007, 1956356162⟩ := by rw [runS, lb_s55, lb_w55]; unfold stepS; simp only [St.mk.injEq]; decide +kernel
theorem lb_s57 : runS (nth kList) (wAt lfbM) hSt 57 = ⟨353917764, 1542457303, 3396503209, 1697433153, 638709228, 4108676117, 3735017919, 329677007⟩ := by rw [runS, lb_s56, lb_w56]; unfold stepS; simp only [St.mk.injEq]; decide +kernel
theorem lb_s58 : runS (nth kList) (wAt lfbM) hSt 58 = ⟨2745931581, 353917764, 1542457303, 3396503209, 4015826802, 638709228, 4108676117, 3735017919⟩ := by rw [runS, lb_s57, lb_w57]; unfold stepS; simp only [St.mk.injEq]; decide +kernel
theorem lb_s59 : runS (nth kList) (wAt lfbM) hSt 59 = ⟨1410664611, 2745931581, 353917764, 1542457303, 2339662298, 4015826802, 638709228, 4108676117⟩ := by rw [runS, lb_s58, lb_w58]; unfold stepS; simp only [St.mk.injEq]; decide +kernel
theorem lb_s60 : runS (nth kList) (wAt lfbM) hSt 60 = ⟨2604301465, 1410664611, 2745931581, 353917764, 500431227, 2339662298, 4015826802, 638709228⟩ := by rw [runS, lb_s59, lb_w59]; unfold stepS; simp only [St.mk.injEq]; decide +kernel
theorem lb_s61 : runS (nth kList) (wAt lfbM) hSt 61 = ⟨1353547558, 2604301465, 1410664611, 2745931581, 1721408792, 500431227, 2339662298, 4015826802⟩ := by rw [runS, lb_s60, lb_w60]; unfold stepS; simp only [St.mk.injEq]; decide +kernel
theorem lb_s62 : runS (nth kList) (wAt lfbM) hSt 62 = ⟨2326124379, 1353547558, 2604301465, 1410664611, 86945301, 1721408792, 500431227, 2339662298⟩ := by rw [runS, lb_s61, lb_w61]; unfold stepS; simp only [St.mk.injEq]; decide +kernel
theorem lb_s63 : runS (nth kList) (wAt lfbM) hSt 63 = ⟨2715829449, 2326124379, 1353547558, 2604301465, 2350874495, 86945301, 1721408792, 500431227⟩ := by rw [runS, lb_s62, lb_w62]; unfold stepS; simp only [St.mk.injEq]; decide +kernel
theorem lb_s64 : runS (nth kList) (wAt lfbM) hSt 64 = ⟨3990966010, 2715829449, 2326124379, 1353547558, 961559441, 2350874495, 86945301, 1721408792⟩ := by rw [runS, lb_s63, lb_w63]; unfold stepS; simp only [St.mk.injEq]; decide +kernel
theorem lb_mix : mixS (nth kList) hSt lfbM = ⟨1475032417, 1564996430, 3340028621, 4127028320, 2321452560, 656730123, 615679936, 3262868017⟩ := by unfold mixS; rw [lb_s64]; unfold addS; simp only [St.mk.injEq]; decide +kernel
theorem lb_dig : digL (bytesL lfbS) = [0, 98, 128, 0, 0, 0, 0, 0, 0, 0, 0, 0, 0, 0, 0, 0, 0, 0, 0, 0, 0, 0, 0, 0, 0, 0, 0, 0, 0, 0, 0, 0, 0, 0, 0, 0, 0, 0, 0, 0, 0, 0, 0, 0, 0, 0, 0, 0, 0, 0, 0, 0, 0, 0, 0, 0, 0, 0, 0, 0, 0, 0, 0, 16] := by decide +kernel
theorem lb_words (x : Nat → Int) (hx : ∀ i, i < 64 → x i = nth [0, 98, 128, 0, 0, 0, 0, 0, 0, 0, 0, 0, 0, 0, 0, 0, 0, 0, 0, 0, 0, 0, 0, 0, 0, 0, 0, 0, 0, 0, 0, 0, 0, 0, 0, 0, 0, 0, 0, 0, 0, 0, 0, 0, 0, 0, 0, 0, 0, 0, 0, 0, 0, 0, 0, 0, 0, 0, 0, 0, 0, 0, 0, 16] i) : ∀ i, i < 16 → wordAt x (64 * 0 + 4 * i) = lfbM i := by
  intro i hi
  have h1 : wordAt x (64 * 0 + 4 * i) = wordAt (nth [0, 98, 128, 0, 0, 0, 0, 0, 0, 0, 0, 0, 0, 0, 0, 0, 0, 0, 0, 0, 0, 0, 0, 0, 0, 0, 0, 0, 0, 0, 0, 0, 0, 0, 0, 0, 0, 0, 0, 0, 0, 0, 0, 0, 0, 0, 0, 0, 0, 0, 0, 0, 0, 0, 0, 0, 0, 0, 0, 0, 0, 0, 0, 16]) (4 * i) := wordAt_congr _ _ _ _ fun j hj => by rw [hx _ (by omega)]; congr 1; omega
  rw [h1]
  have : ∀ i : Fin 16, wordAt (nth [0, 98, 128, 0, 0, 0, 0, 0, 0, 0, 0, 0, 0, 0, 0, 0, 0, 0, 0, 0, 0, 0, 0, 0, 0, 0, 0, 0, 0, 0, 0, 0, 0, 0, 0, 0, 0, 0, 0, 0, 0, 0, 0, 0, 0, 0, 0, 0, 0, 0, 0, 0, 0, 0, 0, 0, 0, 0, 0, 0, 0, 0, 0, 16]) (4 * i.val) = lfbM i.val := by decide +kernel
  exact this ⟨i, hi⟩
theorem lfb_sum : sumS (nth kList) hSt (bytesL lfbS) = ⟨#[87, 235, 53, 97, 93, 71, 243, 78, 199, 20, 202, 205, 245, 253, 116, 96, 138, 94, 142, 16, 39, 36, 232, 11, 36, 178, 135, 192, 194, 123, 106, 49]⟩ := by
  unfold sumS
  rw [lb_dig]
  have h1 : foldB (nth kList) hSt (nth [0, 98, 128, 0, 0, 0, 0, 0, 0, 0, 0, 0, 0, 0, 0, 0, 0, 0, 0, 0, 0, 0, 0, 0, 0, 0, 0, 0, 0, 0, 0, 0, 0, 0, 0, 0, 0, 0, 0, 0, 0, 0, 0, 0, 0, 0, 0, 0, 0, 0, 0, 0, 0, 0, 0, 0, 0, 0, 0, 0, 0, 0, 0, 16]) 1 = ⟨1475032417, 1564996430, 3340028621, 4127028320, 2321452560, 656730123, 615679936, 3262868017⟩ := by
    show mixS (nth kList) hSt (fun i => wordAt _ (64 * 0 + 4 * i)) = _
    rw [mixS_congr _ _ _ lfbM (lb_words _ (fun _ _ => rfl)), lb_mix]
  rw [show ([0, 98, 128, 0, 0, 0, 0, 0, 0, 0, 0, 0, 0, 0, 0, 0, 0, 0, 0, 0, 0, 0, 0, 0, 0, 0, 0, 0, 0, 0, 0, 0, 0, 0, 0, 0, 0, 0, 0, 0, 0, 0, 0, 0, 0, 0, 0, 0, 0, 0, 0, 0, 0, 0, 0, 0, 0, 0, 0, 0, 0, 0, 0, 16] : List Int).length / 64 = 1 from by decide, h1]
  decide +kernel
end Go.Proofs.YtaigngdlioplaaaDoor
