/- The digest of some bytes (emp), printed by genN.py. -/
import Derived.Test.YtaigngdlioplaaaDoorShaJ
namespace Go.Proofs.YtaigngdlioplaaaDoor
open Go Go.RowKit

def empS : ByteArray := ⟨#[]⟩
def empM : Nat → Int := nth [2147483648, 0, 0, 0, 0, 0, 0, 0, 0, 0, 0, 0, 0, 0, 0, 0]
theorem em_w0 : wAt empM 0 = 2147483648 := by rw [wAt_lo _ _ (by decide)]; decide +kernel
theorem em_w1 : wAt empM 1 = 0 := by rw [wAt_lo _ _ (by decide)]; decide +kernel
theorem em_w2 : wAt empM 2 = 0 := by rw [wAt_lo _ _ (by decide)]; decide +kernel
theorem em_w3 : wAt empM 3 = 0 := by rw [wAt_lo _ _ (by decide)]; decide +kernel
theorem em_w4 : wAt empM 4 = 0 := by rw [wAt_lo _ _ (by decide)]; decide +kernel
theorem em_w5 : wAt empM 5 = 0 := by rw [wAt_lo _ _ (by decide)]; decide +kernel
theorem em_w6 : wAt empM 6 = 0 := by rw [wAt_lo _ _ (by decide)]; decide +kernel
theorem em_w7 : wAt empM 7 = 0 := by rw [wAt_lo _ _ (by decide)]; decide +kernel
theorem em_w8 : wAt empM 8 = 0 := by rw [wAt_lo _ _ (by decide)]; decide +kernel
theorem em_w9 : wAt empM 9 = 0 := by rw [wAt_lo _ _ (by decide)]; decide +kernel
theorem em_w10 : wAt empM 10 = 0 := by rw [wAt_lo _ _ (by decide)]; decide +kernel
theorem em_w11 : wAt empM 11 = 0 := by rw [wAt_lo _ _ (by decide)]; decide +kernel
theorem em_w12 : wAt empM 12 = 0 := by rw [wAt_lo _ _ (by decide)]; decide +kernel
theorem em_w13 : wAt empM 13 = 0 := by rw [wAt_lo _ _ (by decide)]; decide +kernel
theorem em_w14 : wAt empM 14 = 0 := by rw [wAt_lo _ _ (by decide)]; decide +kernel
theorem em_w15 : wAt empM 15 = 0 := by rw [wAt_lo _ _ (by decide)]; decide +kernel
theorem em_w16 : wAt empM 16 = 2147483648 := by rw [wAt_hi _ _ (by decide)]; simp only [Nat.reduceSub]; rw [em_w0, em_w9, em_w1, em_w14]; decide +kernel
theorem em_w17 : wAt empM 17 = 0 := by rw [wAt_hi _ _ (by decide)]; simp only [Nat.reduceSub]; rw [em_w1, em_w10, em_w2, em_w15]; decide +kernel
theorem em_w18 : wAt empM 18 = 2117632 := by rw [wAt_hi _ _ (by decide)]; simp only [Nat.reduceSub]; rw [em_w2, em_w11, em_w3, em_w16]; decide +kernel
theorem em_w19 : wAt empM 19 = 0 := by rw [wAt_hi _ _ (by decide)]; simp only [Nat.reduceSub]; rw [em_w3, em_w12, em_w4, em_w17]; decide +kernel
theorem em_w20 : wAt empM 20 = 570427392 := by rw [wAt_hi _ _ (by decide)]; simp only [Nat.reduceSub]; rw [em_w4, em_w13, em_w5, em_w18]; decide +kernel
theorem em_w21 : wAt empM 21 = 0 := by rw [wAt_hi _ _ (by decide)]; simp only [Nat.reduceSub]; rw [em_w5, em_w14, em_w6, em_w19]; decide +kernel
theorem em_w22 : wAt empM 22 = 84448578 := by rw [wAt_hi _ _ (by decide)]; simp only [Nat.reduceSub]; rw [em_w6, em_w15, em_w7, em_w20]; decide +kernel
theorem em_w23 : wAt empM 23 = 2147483648 := by rw [wAt_hi _ _ (by decide)]; simp only [Nat.reduceSub]; rw [em_w7, em_w16, em_w8, em_w21]; decide +kernel
theorem em_w24 : wAt empM 24 = 1476919296 := by rw [wAt_hi _ _ (by decide)]; simp only [Nat.reduceSub]; rw [em_w8, em_w17, em_w9, em_w22]; decide +kernel
theorem em_w25 : wAt empM 25 = 4235264 := by rw [wAt_hi _ _ (by decide)]; simp only [Nat.reduceSub]; rw [em_w9, em_w18, em_w10, em_w23]; decide +kernel
theorem em_w26 : wAt empM 26 = 1451269 := by rw [wAt_hi _ _ (by decide)]; simp only [Nat.reduceSub]; rw [em_w10, em_w19, em_w11, em_w24]; decide +kernel
theorem em_w27 : wAt empM 27 = 1711282176 := by rw [wAt_hi _ _ (by decide)]; simp only [Nat.reduceSub]; rw [em_w11, em_w20, em_w12, em_w25]; decide +kernel
theorem em_w28 : wAt empM 28 = 3592562048 := by rw [wAt_hi _ _ (by decide)]; simp only [Nat.reduceSub]; rw [em_w12, em_w21, em_w13, em_w26]; decide +kernel
theorem em_w29 : wAt empM 29 = 337794312 := by rw [wAt_hi _ _ (by decide)]; simp only [Nat.reduceSub]; rw [em_w13, em_w22, em_w14, em_w27]; decide +kernel
theorem em_w30 : wAt empM 30 = 3594910044 := by rw [wAt_hi _ _ (by decide)]; simp only [Nat.reduceSub]; rw [em_w14, em_w23, em_w15, em_w28]; decide +kernel
theorem em_w31 : wAt empM 31 = 3374850048 := by rw [wAt_hi _ _ (by decide)]; simp only [Nat.reduceSub]; rw [em_w15, em_w24, em_w16, em_w29]; decide +kernel
theorem em_w32 : wAt empM 32 = 3287351444 := by rw [wAt_hi _ _ (by decide)]; simp only [Nat.reduceSub]; rw [em_w16, em_w25, em_w17, em_w30]; decide +kernel
theorem em_w33 : wAt empM 33 = 676112230 := by rw [wAt_hi _ _ (by decide)]; simp only [Nat.reduceSub]; rw [em_w17, em_w26, em_w18, em_w31]; decide +kernel
theorem em_w34 : wAt empM 34 = 109604294 := by rw [wAt_hi _ _ (by decide)]; simp only [Nat.reduceSub]; rw [em_w18, em_w27, em_w19, em_w32]; decide +kernel
theorem em_w35 : wAt empM 35 = 2742808854 := by rw [wAt_hi _ _ (by decide)]; simp only [Nat.reduceSub]; rw [em_w19, em_w28, em_w20, em_w33]; decide +kernel
theorem em_w36 : wAt empM 36 = 1904000662 := by rw [wAt_hi _ _ (by decide)]; simp only [Nat.reduceSub]; rw [em_w20, em_w29, em_w21, em_w34]; decide +kernel
theorem em_w37 : wAt empM 37 = 4274181962 := by rw [wAt_hi _ _ (by decide)]; simp only [Nat.reduceSub]; rw [em_w21, em_w30, em_w22, em_w35]; decide +kernel
theorem em_w38 : wAt empM 38 = 2813755136 := by rw [wAt_hi _ _ (by decide)]; simp only [Nat.reduceSub]; rw [em_w22, em_w31, em_w23, em_w36]; decide +kernel
theorem em_w39 : wAt empM 39 = 2165675682 := by rw [wAt_hi _ _ (by decide)]; simp only [Nat.reduceSub]; rw [em_w23, em_w32, em_w24, em_w37]; decide +kernel
theorem em_w40 : wAt empM 40 = 2561075048 := by rw [wAt_hi _ _ (by decide)]; simp only [Nat.reduceSub]; rw [em_w24, em_w33, em_w25, em_w38]; decide +kernel
theorem em_w41 : wAt empM 41 = 62000258 := by rw [wAt_hi _ _ (by decide)]; simp only [Nat.reduceSub]; rw [em_w25, em_w34, em_w26, em_w39]; decide +kernel
theorem em_w42 : wAt empM 42 = 1562224585 := by rw [wAt_hi _ _ (by decide)]; simp only [Nat.reduceSub]; rw [em_w26, em_w35, em_w27, em_w40]; decide +kernel
theorem em_w43 : wAt empM 43 = 2975250741 := by rw [wAt_hi _ _ (by decide)]; simp only [Nat.reduceSub]; rw [em_w27, em_w36, em_w28, em_w41]; decide +kernel
theorem em_w44 : wAt empM 44 = 3286092305 := by rw [wAt_hi _ _ (by decide)]; simp only [Nat.reduceSub]; rw [em_w28, em_w37, em_w29, em_w42]; decide +kernel
theorem em_w45 : wAt empM 45 = 614207615 := by rw [wAt_hi _ _ (by decide)]; simp only [Nat.reduceSub]; rw [em_w29, em_w38, em_w30, em_w43]; decide +kernel
theorem em_w46 : wAt empM 46 = 3297584367 := by rw [wAt_hi _ _ (by decide)]; simp only [Nat.reduceSub]; rw [em_w30, em_w39, em_w31, em_w44]; decide +kernel
theorem em_w47 : wAt empM 47 = 1575308336 := by rw [wAt_hi _ _ (by decide)]; simp only [Nat.reduceSub]; rw [em_w31, em_w40, em_w32, em_w45]; decide +kernel
theorem em_w48 : wAt empM 48 = 3741240933 := by rw [wAt_hi _ _ (by decide)]; simp only [Nat.reduceSub]; rw [em_w32, em_w41, em_w33, em_w46]; decide +kernel
theorem em_w49 : wAt empM 49 = 748767245 := by rw [wAt_hi _ _ (by decide)]; simp only [Nat.reduceSub]; rw [em_w33, em_w42, em_w34, em_w47]; decide +kernel
theorem em_w50 : wAt empM 50 = 1008022316 := by rw [wAt_hi _ _ (by decide)]; simp only [Nat.reduceSub]; rw [em_w34, em_w43, em_w35, em_w48]; decide +kernel
theorem em_w51 : wAt empM 51 = 30329261 := by rw [wAt_hi _ _ (by decide)]; simp only [Nat.reduceSub]; rw [em_w35, em_w44, em_w36, em_w49]; decide +kernel
theorem em_w52 : wAt empM 52 = 369937616 := by rw [wAt_hi _ _ (by decide)]; simp only [Nat.reduceSub]; rw [em_w36, em_w45, em_w37, em_w50]; decide +kernel
theorem em_w53 : wAt empM 53 = 195877528 := by rw [wAt_hi _ _ (by decide)]; simp only [Nat.reduceSub]; rw [em_w37, em_w46, em_w38, em_w51]; decide +kernel
theorem em_w54 : wAt empM 54 = 907775968 := by rw [wAt_hi _ _ (by decide)]; simp only [Nat.reduceSub]; rw [em_w38, em_w47, em_w39, em_w52]; decide +kernel
theorem em_w55 : wAt empM 55 = 3526495142 := by rw [wAt_hi _ _ (by decide)]; simp only [Nat.reduceSub]; rw [em_w39, em_w48, em_w40, em_w53]; decide +kernel
theorem em_w56 : wAt empM 56 = 43741191 := by rw [wAt_hi _ _ (by decide)]; simp only [Nat.reduceSub]; rw [em_w40, em_w49, em_w41, em_w54]; decide +kernel
theorem em_w57 : wAt empM 57 = 1967544444 := by rw [wAt_hi _ _ (by decide)]; simp only [Nat.reduceSub]; rw [em_w41, em_w50, em_w42, em_w55]; decide +kernel
theorem em_w58 : wAt empM 58 = 133517113 := by rw [wAt_hi _ _ (by decide)]; simp only [Nat.reduceSub]; rw [em_w42, em_w51, em_w43, em_w56]; decide +kernel
theorem em_w59 : wAt empM 59 = 4161330627 := by rw [wAt_hi _ _ (by decide)]; simp only [Nat.reduceSub]; rw [em_w43, em_w52, em_w44, em_w57]; decide +kernel
theorem em_w60 : wAt empM 60 = 3704256008 := by rw [wAt_hi _ _ (by decide)]; simp only [Nat.reduceSub]; rw [em_w44, em_w53, em_w45, em_w58]; decide +kernel
theorem em_w61 : wAt empM 61 = 1581412744 := by rw [wAt_hi _ _ (by decide)]; simp only [Nat.reduceSub]; rw [em_w45, em_w54, em_w46, em_w59]; decide +kernel
theorem em_w62 : wAt empM 62 = 1153231965 := by rw [wAt_hi _ _ (by decide)]; simp only [Nat.reduceSub]; rw [em_w46, em_w55, em_w47, em_w60]; decide +kernel
theorem em_w63 : wAt empM 63 = 996066459 := by rw [wAt_hi _ _ (by decide)]; simp only [Nat.reduceSub]; rw [em_w47, em_w56, em_w48, em_w61]; decide +kernel
theorem em_s0 : runS (nth kList) (wAt empM) hSt 0 = ⟨1779033703, 3144134277, 1013904242, 2773480762, 1359893119, 2600822924, 528734635, 1541459225⟩ := rfl
theorem em_s1 : runS (nth kList) (wAt empM) hSt 1 = ⟨2080933965, 1779033703, 3144134277, 1013904242, 415752866, 1359893119, 2600822924, 528734635⟩ := by rw [runS, em_s0, em_w0]; unfold stepS; simp only [St.mk.injEq]; decide +kernel
theorem em_s2 : runS (nth kList) (wAt empM) hSt 2 = ⟨2632279248, 2080933965, 1779033703, 3144134277, 536982102, 415752866, 1359893119, 2600822924⟩ := by rw [runS, em_s1, em_w1]; unfold stepS; simp only [St.mk.injEq]; decide +kernel
theorem em_s3 : runS (nth kList) (wAt empM) hSt 3 = ⟨3299628326, 2632279248, 2080933965, 1779033703, 1876632314, 536982102, 415752866, 1359893119⟩ := by rw [runS, em_s2, em_w2]; unfold stepS; simp only [St.mk.injEq]; decide +kernel
theorem em_s4 : runS (nth kList) (wAt empM) hSt 4 = ⟨1277422283, 3299628326, 2632279248, 2080933965, 808968629, 1876632314, 536982102, 415752866⟩ := by rw [runS, em_s3, em_w3]; unfold stepS; simp only [St.mk.injEq]; decide +kernel
theorem em_s5 : runS (nth kList) (wAt empM) hSt 5 = ⟨1130821424, 1277422283, 3299628326, 2632279248, 3889194014, 808968629, 1876632314, 536982102⟩ := by rw [runS, em_s4, em_w4]; unfold stepS; simp only [St.mk.injEq]; decide +kernel
theorem em_s6 : runS (nth kList) (wAt empM) hSt 6 = ⟨690895682, 1130821424, 1277422283, 3299628326, 1332035834, 3889194014, 808968629, 1876632314⟩ := by rw [runS, em_s5, em_w5]; unfold stepS; simp only [St.mk.injEq]; decide +kernel
theorem em_s7 : runS (nth kList) (wAt empM) hSt 7 = ⟨4028650896, 690895682, 1130821424, 1277422283, 2196627567, 1332035834, 3889194014, 808968629⟩ := by rw [runS, em_s6, em_w6]; unfold stepS; simp only [St.mk.injEq]; decide +kernel
theorem em_s8 : runS (nth kList) (wAt empM) hSt 8 = ⟨2060825014, 4028650896, 690895682, 1130821424, 1408847307, 2196627567, 1332035834, 3889194014⟩ := by rw [runS, em_s7, em_w7]; unfold stepS; simp only [St.mk.injEq]; decide +kernel
theorem em_s9 : runS (nth kList) (wAt empM) hSt 9 = ⟨4113392549, 2060825014, 4028650896, 690895682, 2058339864, 1408847307, 2196627567, 1332035834⟩ := by rw [runS, em_s8, em_w8]; unfold stepS; simp only [St.mk.injEq]; decide +kernel
theorem em_s10 : runS (nth kList) (wAt empM) hSt 10 = ⟨4025007953, 4113392549, 2060825014, 4028650896, 1392976521, 2058339864, 1408847307, 2196627567⟩ := by rw [runS, em_s9, em_w9]; unfold stepS; simp only [St.mk.injEq]; decide +kernel
theorem em_s11 : runS (nth kList) (wAt empM) hSt 11 = ⟨361478433, 4025007953, 4113392549, 2060825014, 3795207118, 1392976521, 2058339864, 1408847307⟩ := by rw [runS, em_s10, em_w10]; unfold stepS; simp only [St.mk.injEq]; decide +kernel
theorem em_s12 : runS (nth kList) (wAt empM) hSt 12 = ⟨4114828352, 361478433, 4025007953, 4113392549, 3621813394, 3795207118, 1392976521, 2058339864⟩ := by rw [runS, em_s11, em_w11]; unfold stepS; simp only [St.mk.injEq]; decide +kernel
theorem em_s13 : runS (nth kList) (wAt empM) hSt 13 = ⟨553833165, 4114828352, 361478433, 4025007953, 3455974994, 3621813394, 3795207118, 1392976521⟩ := by rw [runS, em_s12, em_w12]; unfold stepS; simp only [St.mk.injEq]; decide +kernel
theorem em_s14 : runS (nth kList) (wAt empM) hSt 14 = ⟨1170215847, 553833165, 4114828352, 361478433, 725774998, 3455974994, 3621813394, 3795207118⟩ := by rw [runS, em_s13, em_w13]; unfold stepS; simp only [St.mk.injEq]; decide +kernel
theorem em_s15 : runS (nth kList) (wAt empM) hSt 15 = ⟨3096116699, 1170215847, 553833165, 4114828352, 483372089, 725774998, 3455974994, 3621813394⟩ := by rw [runS, em_s14, em_w14]; unfold stepS; simp only [St.mk.injEq]; decide +kernel
theorem em_s16 : runS (nth kList) (wAt empM) hSt 16 = ⟨3019933109, 3096116699, 1170215847, 553833165, 1555621987, 483372089, 725774998, 3455974994⟩ := by rw [runS, em_s15, em_w15]; unfold stepS; simp only [St.mk.injEq]; decide +kernel
theorem em_s17 : runS (nth kList) (wAt empM) hSt 17 = ⟨1192056138, 3019933109, 3096116699, 1170215847, 1892956839, 1555621987, 483372089, 725774998⟩ := by rw [runS, em_s16, em_w16]; unfold stepS; simp only [St.mk.injEq]; decide +kernel
theorem em_s18 : runS (nth kList) (wAt empM) hSt 18 = ⟨3717831211, 1192056138, 3019933109, 3096116699, 1619825619, 1892956839, 1555621987, 483372089⟩ := by rw [runS, em_s17, em_w17]; unfold stepS; simp only [St.mk.injEq]; decide +kernel
theorem em_s19 : runS (nth kList) (wAt empM) hSt 19 = ⟨812095850, 3717831211, 1192056138, 3019933109, 3550010602, 1619825619, 1892956839, 1555621987⟩ := by rw [runS, em_s18, em_w18]; unfold stepS; simp only [St.mk.injEq]; decide +kernel
theorem em_s20 : runS (nth kList) (wAt empM) hSt 20 = ⟨172493064, 812095850, 3717831211, 1192056138, 2416781228, 3550010602, 1619825619, 1892956839⟩ := by rw [runS, em_s19, em_w19]; unfold stepS; simp only [St.mk.injEq]; decide +kernel
theorem em_s21 : runS (nth kList) (wAt empM) hSt 21 = ⟨1976037592, 172493064, 812095850, 3717831211, 966081741, 2416781228, 3550010602, 1619825619⟩ := by rw [runS, em_s20, em_w20]; unfold stepS; simp only [St.mk.injEq]; decide +kernel
theorem em_s22 : runS (nth kList) (wAt empM) hSt 22 = ⟨2577845017, 1976037592, 172493064, 812095850, 3263666206, 966081741, 2416781228, 3550010602⟩ := by rw [runS, em_s21, em_w21]; unfold stepS; simp only [St.mk.injEq]; decide +kernel
theorem em_s23 : runS (nth kList) (wAt empM) hSt 23 = ⟨1078820948, 2577845017, 1976037592, 172493064, 2976200464, 3263666206, 966081741, 2416781228⟩ := by rw [runS, em_s22, em_w22]; unfold stepS; simp only [St.mk.injEq]; decide +kernel
theorem em_s24 : runS (nth kList) (wAt empM) hSt 24 = ⟨2556161365, 1078820948, 2577845017, 1976037592, 741081741, 2976200464, 3263666206, 966081741⟩ := by rw [runS, em_s23, em_w23]; unfold stepS; simp only [St.mk.injEq]; decide +kernel
theorem em_s25 : runS (nth kList) (wAt empM) hSt 25 = ⟨2062996621, 2556161365, 1078820948, 2577845017, 4116679717, 741081741, 2976200464, 3263666206⟩ := by rw [runS, em_s24, em_w24]; unfold stepS; simp only [St.mk.injEq]; decide +kernel
theorem em_s26 : runS (nth kList) (wAt empM) hSt 26 = ⟨3317175470, 2062996621, 2556161365, 1078820948, 3850028020, 4116679717, 741081741, 2976200464⟩ := by rw [runS, em_s25, em_w25]; unfold stepS; simp only [St.mk.injEq]; decide +kernel
theorem em_s27 : runS (nth kList) (wAt empM) hSt 27 = ⟨747317945, 3317175470, 2062996621, 2556161365, 2677228163, 3850028020, 4116679717, 741081741⟩ := by rw [runS, em_s26, em_w26]; unfold stepS; simp only [St.mk.injEq]; decide +kernel
theorem em_s28 : runS (nth kList) (wAt empM) hSt 28 = ⟨1837942423, 747317945, 3317175470, 2062996621, 1726829818, 2677228163, 3850028020, 4116679717⟩ := by rw [runS, em_s27, em_w27]; unfold stepS; simp only [St.mk.injEq]; decide +kernel
theorem em_s29 : runS (nth kList) (wAt empM) hSt 29 = ⟨1690082844, 1837942423, 747317945, 3317175470, 2506713973, 1726829818, 2677228163, 3850028020⟩ := by rw [runS, em_s28, em_w28]; unfold stepS; simp only [St.mk.injEq]; decide +kernel
theorem em_s30 : runS (nth kList) (wAt empM) hSt 30 = ⟨1926471693, 1690082844, 1837942423, 747317945, 2957685293, 2506713973, 1726829818, 2677228163⟩ := by rw [runS, em_s29, em_w29]; unfold stepS; simp only [St.mk.injEq]; decide +kernel
theorem em_s31 : runS (nth kList) (wAt empM) hSt 31 = ⟨2696613087, 1926471693, 1690082844, 1837942423, 1447716390, 2957685293, 2506713973, 1726829818⟩ := by rw [runS, em_s30, em_w30]; unfold stepS; simp only [St.mk.injEq]; decide +kernel
theorem em_s32 : runS (nth kList) (wAt empM) hSt 32 = ⟨300352095, 2696613087, 1926471693, 1690082844, 3151463532, 1447716390, 2957685293, 2506713973⟩ := by rw [runS, em_s31, em_w31]; unfold stepS; simp only [St.mk.injEq]; decide +kernel
theorem em_s33 : runS (nth kList) (wAt empM) hSt 33 = ⟨3817927606, 300352095, 2696613087, 1926471693, 3436338571, 3151463532, 1447716390, 2957685293⟩ := by rw [runS, em_s32, em_w32]; unfold stepS; simp only [St.mk.injEq]; decide +kernel
theorem em_s34 : runS (nth kList) (wAt empM) hSt 34 = ⟨2705438357, 3817927606, 300352095, 2696613087, 197416927, 3436338571, 3151463532, 1447716390⟩ := by rw [runS, em_s33, em_w33]; unfold stepS; simp only [St.mk.injEq]; decide +kernel
theorem em_s35 : runS (nth kList) (wAt empM) hSt 35 = ⟨1151435175, 2705438357, 3817927606, 300352095, 1769188034, 197416927, 3436338571, 3151463532⟩ := by rw [runS, em_s34, em_w34]; unfold stepS; simp only [St.mk.injEq]; decide +kernel
theorem em_s36 : runS (nth kList) (wAt empM) hSt 36 = ⟨1679812728, 1151435175, 2705438357, 3817927606, 980442793, 1769188034, 197416927, 3436338571⟩ := by rw [runS, em_s35, em_w35]; unfold stepS; simp only [St.mk.injEq]; decide +kernel
theorem em_s37 : runS (nth kList) (wAt empM) hSt 37 = ⟨2694206301, 1679812728, 1151435175, 2705438357, 4206914285, 980442793, 1769188034, 197416927⟩ := by rw [runS, em_s36, em_w36]; unfold stepS; simp only [St.mk.injEq]; decide +kernel
theorem em_s38 : runS (nth kList) (wAt empM) hSt 38 = ⟨1457773646, 2694206301, 1679812728, 1151435175, 3892832895, 4206914285, 980442793, 1769188034⟩ := by rw [runS, em_s37, em_w37]; unfold stepS; simp only [St.mk.injEq]; decide +kernel
theorem em_s39 : runS (nth kList) (wAt empM) hSt 39 = ⟨2656625711, 1457773646, 2694206301, 1679812728, 2242319396, 3892832895, 4206914285, 980442793⟩ := by rw [runS, em_s38, em_w38]; unfold stepS; simp only [St.mk.injEq]; decide +kernel
theorem em_s40 : runS (nth kList) (wAt empM) hSt 40 = ⟨1234768305, 2656625711, 1457773646, 2694206301, 1902882853, 2242319396, 3892832895, 4206914285⟩ := by rw [runS, em_s39, em_w39]; unfold stepS; simp only [St.mk.injEq]; decide +kernel
theorem em_s41 : runS (nth kList) (wAt empM) hSt 41 = ⟨4270245939, 1234768305, 2656625711, 1457773646, 2224585183, 1902882853, 2242319396, 3892832895⟩ := by rw [runS, em_s40, em_w40]; unfold stepS; simp only [St.mk.injEq]; decide +kernel
theorem em_s42 : runS (nth kList) (wAt empM) hSt 42 = ⟨580450446, 4270245939, 1234768305, 2656625711, 4123364073, 2224585183, 1902882853, 2242319396⟩ := by rw [runS, em_s41, em_w41]; unfold stepS; simp only [St.mk.injEq]; decide +kernel
theorem em_s43 : runS (nth kList) (wAt empM) hSt 43 = ⟨3686090155, 580450446, 4270245939, 1234768305, 3762306745, 4123364073, 2224585183, 1902882853⟩ := by rw [runS, em_s42, em_w42]; unfold stepS; simp only [St.mk.injEq]; decide +kernel
theorem em_s44 : runS (nth kList) (wAt empM) hSt 44 = ⟨3907209042, 3686090155, 580450446, 4270245939, 692219050, 3762306745, 4123364073, 2224585183⟩ := by rw [runS, em_s43, em_w43]; unfold stepS; simp only [St.mk.injEq]; decide +kernel
theorem em_s45 : runS (nth kList) (wAt empM) hSt 45 = ⟨2752082644, 3907209042, 3686090155, 580450446, 2855016464, 692219050, 3762306745, 4123364073⟩ := by rw [runS, em_s44, em_w44]; unfold stepS; simp only [St.mk.injEq]; decide +kernel
theorem em_s46 : runS (nth kList) (wAt empM) hSt 46 = ⟨855262251, 2752082644, 3907209042, 3686090155, 3531982457, 2855016464, 692219050, 3762306745⟩ := by rw [runS, em_s45, em_w45]; unfold stepS; simp only [St.mk.injEq]; decide +kernel
theorem em_s47 : runS (nth kList) (wAt empM) hSt 47 = ⟨1419259244, 855262251, 2752082644, 3907209042, 2322236082, 3531982457, 2855016464, 692219050⟩ := by rw [runS, em_s46, em_w46]; unfold stepS; simp only [St.mk.injEq]; decide +kernel
theorem em_s48 : runS (nth kList) (wAt empM) hSt 48 = ⟨911881421, 1419259244, 855262251, 2752082644, 3417569515, 2322236082, 3531982457, 2855016464⟩ := by rw [runS, em_s47, em_w47]; unfold stepS; simp only [St.mk.injEq]; decide +kernel
theorem em_s49 : runS (nth kList) (wAt empM) hSt 49 = ⟨1655188062, 911881421, 1419259244, 855262251, 1286303114, 3417569515, 2322236082, 3531982457⟩ := by rw [runS, em_s48, em_w48]; unfold stepS; simp only [St.mk.injEq]; decide +kernel
theorem em_s50 : runS (nth kList) (wAt empM) hSt 50 = ⟨2543384045, 1655188062, 911881421, 1419259244, 3909789552, 1286303114, 3417569515, 2322236082⟩ := by rw [runS, em_s49, em_w49]; unfold stepS; simp only [St.mk.injEq]; decide +kernel
theorem em_s51 : runS (nth kList) (wAt empM) hSt 51 = ⟨3244542753, 2543384045, 1655188062, 911881421, 906398686, 3909789552, 1286303114, 3417569515⟩ := by rw [runS, em_s50, em_w50]; unfold stepS; simp only [St.mk.injEq]; decide +kernel
theorem em_s52 : runS (nth kList) (wAt empM) hSt 52 = ⟨3579709122, 3244542753, 2543384045, 1655188062, 2710884687, 906398686, 3909789552, 1286303114⟩ := by rw [runS, em_s51, em_w51]; unfold stepS; simp only [St.mk.injEq]; decide +kernel
theorem em_s53 : runS (nth kList) (wAt empM) hSt 53 = ⟨2981272720, 3579709122, 3244542753, 2543384045, 1134943992, 2710884687, 906398686, 3909789552⟩ := by rw [runS, em_s52, em_w52]; unfold stepS; simp only [St.mk.injEq]; decide +kernel
theorem em_s54 : runS (nth kList) (wAt empM) hSt 54 = ⟨974034039, 2981272720, 3579709122, 3244542753, 4254700398, 1134943992, 2710884687, 906398686⟩ := by rw [runS, em_s53, em_w53]; unfold stepS; simp only [St.mk.injEq]; decide +kernel
theorem em_s55 : runS (nth kList) (wAt empM) hSt 55 = ⟨749689034, 974034039, 2981272720, 3579709122, 3850954136, 4254700398, 1134943992, 2710884687⟩ := by rw [runS, em_s54, em_w54]; unfold stepS; simp only [St.mk.injEq]; decide +kernel
theorem em_s56 : runS (nth kList) (wAt empM) hSt 56 = ⟨23298068, 749689034, 974034039, 2981272720, 2918796810, 3850954136, 4254700398, 1134943992⟩ := by rw [runS, em_s55, em_w55]; unfold stepS; simp only [St.mk.injEq]; decide +kernel
theorem em_s57 : runS (nth kList) (wAt empM) hSt 57 = ⟨2126991890, 23298068, 749689034, 974034039, 2035393328, 2918796810, 3850954136, 4254700398⟩ := by rw [runS, em_s56, em_w56]; unfold stepS; simp only [St.mk.injEq]; decide +kernel
theorem em_s58 : runS (nth kList) (wAt empM) hSt 58 = ⟨3891021244, 2126991890, 23298068, 749689034, 3802734300, 2035393328, 2918796810, 3850954136⟩ := by rw [runS, em_s57, em_w57]; unfold stepS; simp only [St.mk.injEq]; decide +kernel
theorem em_s59 : runS (nth kList) (wAt empM) hSt 59 = ⟨3911429062, 3891021244, 2126991890, 23298068, 148956906, 3802734300, 2035393328, 2918796810⟩ := by rw [runS, em_s58, em_w58]; unfold stepS; simp only [St.mk.injEq]; decide +kernel
theorem em_s60 : runS (nth kList) (wAt empM) hSt 60 = ⟨71572494, 3911429062, 3891021244, 2126991890, 2867830852, 148956906, 3802734300, 2035393328⟩ := by rw [runS, em_s59, em_w59]; unfold stepS; simp only [St.mk.injEq]; decide +kernel
theorem em_s61 : runS (nth kList) (wAt empM) hSt 61 = ⟨4095722474, 71572494, 3911429062, 3891021244, 477227836, 2867830852, 148956906, 3802734300⟩ := by rw [runS, em_s60, em_w60]; unfold stepS; simp only [St.mk.injEq]; decide +kernel
theorem em_s62 : runS (nth kList) (wAt empM) hSt 62 = ⟨1586299222, 4095722474, 71572494, 3911429062, 2232532848, 477227836, 2867830852, 148956906⟩ := by rw [runS, em_s61, em_w61]; unfold stepS; simp only [St.mk.injEq]; decide +kernel
theorem em_s63 : runS (nth kList) (wAt empM) hSt 63 = ⟨3717492111, 1586299222, 4095722474, 71572494, 3382061760, 2232532848, 477227836, 2867830852⟩ := by rw [runS, em_s62, em_w62]; unfold stepS; simp only [St.mk.injEq]; decide +kernel
theorem em_s64 : runS (nth kList) (wAt empM) hSt 64 = ⟨2040978907, 3717492111, 1586299222, 4095722474, 3600805733, 3382061760, 2232532848, 477227836⟩ := by rw [runS, em_s63, em_w63]; unfold stepS; simp only [St.mk.injEq]; decide +kernel
theorem em_mix : mixS (nth kList) hSt empM = ⟨3820012610, 2566659092, 2600203464, 2574235940, 665731556, 1687917388, 2761267483, 2018687061⟩ := by unfold mixS; rw [em_s64]; unfold addS; simp only [St.mk.injEq]; decide +kernel
theorem em_dig : digL (bytesL empS) = [128, 0, 0, 0, 0, 0, 0, 0, 0, 0, 0, 0, 0, 0, 0, 0, 0, 0, 0, 0, 0, 0, 0, 0, 0, 0, 0, 0, 0, 0, 0, 0, 0, 0, 0, 0, 0, 0, 0, 0, 0, 0, 0, 0, 0, 0, 0, 0, 0, 0, 0, 0, 0, 0, 0, 0, 0, 0, 0, 0, 0, 0, 0, 0] := by decide +kernel
theorem em_words (x : Nat → Int) (hx : ∀ i, i < 64 → x i = nth [128, 0, 0, 0, 0, 0, 0, 0, 0, 0, 0, 0, 0, 0, 0, 0, 0, 0, 0, 0, 0, 0, 0, 0, 0, 0, 0, 0, 0, 0, 0, 0, 0, 0, 0, 0, 0, 0, 0, 0, 0, 0, 0, 0, 0, 0, 0, 0, 0, 0, 0, 0, 0, 0, 0, 0, 0, 0, 0, 0, 0, 0, 0, 0] i) : ∀ i, i < 16 → wordAt x (64 * 0 + 4 * i) = empM i := by
  intro i hi
  have h1 : wordAt x (64 * 0 + 4 * i) = wordAt (nth [128, 0, 0, 0, 0, 0, 0, 0, 0, 0, 0, 0, 0, 0, 0, 0, 0, 0, 0, 0, 0, 0, 0, 0, 0, 0, 0, 0, 0, 0, 0, 0, 0, 0, 0, 0, 0, 0, 0, 0, 0, 0, 0, 0, 0, 0, 0, 0, 0, 0, 0, 0, 0, 0, 0, 0, 0, 0, 0, 0, 0, 0, 0, 0]) (4 * i) := wordAt_congr _ _ _ _ fun j hj => by rw [hx _ (by omega)]; congr 1; omega
  rw [h1]
  have : ∀ i : Fin 16, wordAt (nth [128, 0, 0, 0, 0, 0, 0, 0, 0, 0, 0, 0, 0, 0, 0, 0, 0, 0, 0, 0, 0, 0, 0, 0, 0, 0, 0, 0, 0, 0, 0, 0, 0, 0, 0, 0, 0, 0, 0, 0, 0, 0, 0, 0, 0, 0, 0, 0, 0, 0, 0, 0, 0, 0, 0, 0, 0, 0, 0, 0, 0, 0, 0, 0]) (4 * i.val) = empM i.val := by decide +kernel
  exact this ⟨i, hi⟩
theorem emp_sum : sumS (nth kList) hSt (bytesL empS) = ⟨#[227, 176, 196, 66, 152, 252, 28, 20, 154, 251, 244, 200, 153, 111, 185, 36, 39, 174, 65, 228, 100, 155, 147, 76, 164, 149, 153, 27, 120, 82, 184, 85]⟩ := by
  unfold sumS
  rw [em_dig]
  have h1 : foldB (nth kList) hSt (nth [128, 0, 0, 0, 0, 0, 0, 0, 0, 0, 0, 0, 0, 0, 0, 0, 0, 0, 0, 0, 0, 0, 0, 0, 0, 0, 0, 0, 0, 0, 0, 0, 0, 0, 0, 0, 0, 0, 0, 0, 0, 0, 0, 0, 0, 0, 0, 0, 0, 0, 0, 0, 0, 0, 0, 0, 0, 0, 0, 0, 0, 0, 0, 0]) 1 = ⟨3820012610, 2566659092, 2600203464, 2574235940, 665731556, 1687917388, 2761267483, 2018687061⟩ := by
    show mixS (nth kList) hSt (fun i => wordAt _ (64 * 0 + 4 * i)) = _
    rw [mixS_congr _ _ _ empM (em_words _ (fun _ _ => rfl)), em_mix]
  rw [show ([128, 0, 0, 0, 0, 0, 0, 0, 0, 0, 0, 0, 0, 0, 0, 0, 0, 0, 0, 0, 0, 0, 0, 0, 0, 0, 0, 0, 0, 0, 0, 0, 0, 0, 0, 0, 0, 0, 0, 0, 0, 0, 0, 0, 0, 0, 0, 0, 0, 0, 0, 0, 0, 0, 0, 0, 0, 0, 0, 0, 0, 0, 0, 0] : List Int).length / 64 = 1 from by decide, h1]
  decide +kernel
end Go.Proofs.YtaigngdlioplaaaDoor
