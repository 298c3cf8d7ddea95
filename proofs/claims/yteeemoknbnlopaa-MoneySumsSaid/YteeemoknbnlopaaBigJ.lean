/- The walk of MoneyTwo (printed by genBigJ.py). -/
import Derived.Test.YteeemoknbnlopaaBigI
import Derived.Test.YteeemoknbnlopaaRegD
namespace Go.Proofs.Yteeemoknbnlopaa
open Go Go.RowKit Bg Mon
set_option linter.unusedVariables false

theorem BigAt.abs {w : World} {z : Int} {t : Bool} {A : Option Addr} {n c : Nat} (h : BigAt w (.agg #[.bool t, .slice A n c]) z) : BigAt w (.agg #[.bool false, .slice A n c]) (z.natAbs : Int) := by
  obtain ⟨A', n', c', f, e, hc, hv, hd, hn⟩ := h
  cases e
  exact ⟨A, n, c, f, by rw [decide_eq_false (by omega)], hc, by rw [hv]; simp, hd, hn⟩
theorem small40 {X : Int} (h : X.natAbs ≤ 1569275433846670190958947355801916604025588861116008628224) : X.natAbs < 10000 ^ 40 := by
  have : (10000 : Nat) ^ 40 = 10000 ^ 20 * 10000 ^ 20 := by rw [← Nat.pow_add]
  have h2 : (10000 : Nat) ^ 20 = 100000000000000000000000000000000000000000000000000000000000000000000000000000000 := by decide
  rw [this, h2]
  omega
theorem prod_bound {a b : Int} (ha : I64 a) (hb : I64 b) : (a * b).natAbs ≤ 85070591730234615865843651857942052864 := by
  rw [Int.natAbs_mul]
  have h1 : a.natAbs ≤ 9223372036854775808 := by unfold I64 at ha; omega
  have h2 : b.natAbs ≤ 9223372036854775808 := by unfold I64 at hb; omega
  exact Nat.mul_le_mul h1 h2

set_option maxRecDepth 100000 in
set_option maxHeartbeats 4000000 in
theorem MoneyTwo_walk (a b : Int) (w : World) (ha : Hid (I64 a)) (hb : Hid (I64 b)) :
    Calls Try.prog 5 #[.int .i64 a, .int .i64 b] w fun e w' => e = .returned (.bool true) ∧ Below w.heap.size w w' := by
  have hpb := prod_bound ha.out hb.out
  have sa : a.natAbs < 10000 ^ 40 := small40 (by have := ha.out; unfold I64 at this; omega)
  have sb : b.natAbs < 10000 ^ 40 := small40 (by have := hb.out; unfold I64 at this; omega)
  have snb : (-b).natAbs < 10000 ^ 40 := small40 (by have := hb.out; unfold I64 at this; omega)
  have s1 : (a + b).natAbs < 10000 ^ 40 := small40 (by have h1 := ha.out; have h2 := hb.out; unfold I64 at h1 h2; omega)
  have s2 : (a + -b).natAbs < 10000 ^ 40 := small40 (by have h1 := ha.out; have h2 := hb.out; unfold I64 at h1 h2; omega)
  have s3 : (a * b).natAbs < 10000 ^ 40 := small40 (by omega)
  have s4 : ((a.natAbs : Int)).natAbs < 10000 ^ 40 := small40 (by have := ha.out; unfold I64 at this; omega)
  have q1 := Lib.hid (fun w => AddM_any a b ha.out hb.out w)
  have q2 := Lib.hid (fun w => SubM_any a b ha.out hb.out w)
  have q3 := Lib.hid (fun w => Mul_any a b ha.out hb.out w)
  have q4 := Lib.hid (fun w => AbsM_any a ha.out w)
  rw [total_fits (by omega)] at q3
  rw [show a - b = a + -b by omega] at q2
  have SB := Lib.hid (And.intro sa (And.intro sb (And.intro snb (And.intro s1 (And.intro s2 (And.intro s3 s4))))))
  have r1 := Lib.hid (fun x w h => same_any x (a + b) (fitsP (a + b)).1 (fitsP (a + b)).2 w h s1 rfl)
  have r2 := Lib.hid (fun x w h => same_any x (a + -b) (fitsP (a + -b)).1 (fitsP (a + -b)).2 w h s2 rfl)
  have r3 := Lib.hid (fun x w h => same_any x (a * b) (fitsP (a * b)).1 (fitsP (a * b)).2 w h s3 rfl)
  have r4 := Lib.hid (fun x w h => same_any x (a.natAbs : Int) (fitsP (a.natAbs : Int)).1 (fitsP (a.natAbs : Int)).2 w h s4 rfl)
  generalize fitsP (a + b) = F1 at *
  generalize fitsP (a + -b) = F2 at *
  generalize fitsP (a * b) = F3 at *
  generalize fitsP (a.natAbs : Int) = F4 at *
  clear hpb sa sb snb s1 s2 s3 s4
  have a0 := Lib.hid (alive05 w)
  have qa := Lib.hid (fun w => Of_any a ha.out w)
  have qb := Lib.hid (fun w => Of_any b hb.out w)
  go_enter Try.func5, Try.ntmps5
  go_wp2_with fail
  with_reducible refine a0.out.mono ?_
  rintro e w1 ⟨rfl, hb1⟩
  have HB1 := Lib.hid hb1
  clear hb1
  go_wp2_with fail
  with_reducible refine (qa.out _).mono ?_
  rintro e w2 ⟨⟨va, rfl, hva⟩, hb2⟩
  obtain ⟨ta, Aa, na, ca, rfl⟩ := hva.form
  have HB2 := Lib.hid (HB1.out.trans (hb2.mono HB1.out.size))
  have HVa := Lib.hid hva
  clear hva hb2 HB1
  go_wp2_with fail
  with_reducible refine (qb.out _).mono ?_
  rintro e w3 ⟨⟨vb, rfl, hvb⟩, hb3⟩
  obtain ⟨tb, Ab, nb, cb, rfl⟩ := hvb.form
  have HB3 := Lib.hid (HB2.out.trans (hb3.mono HB2.out.size))
  have HVb := Lib.hid hvb
  have HVa2 := Lib.hid (HVa.out.call hb3)
  clear hvb hb3 HB2 HVa
  obtain ⟨G, hG⟩ : ∃ G, w3.heap.size = G := ⟨_, rfl⟩
  have k1 := (BigBlk.mk w3 G ta (.slice Aa na ca) hG).alloc (.cells #[.bool tb, .slice Ab nb cb] 30)
  have k2 := BigBlk.mk (w3.alloc (.cells #[.bool ta, .slice Aa na ca] 30)) (G + 1) tb (.slice Ab nb cb) (by rw [World.size_alloc, hG])
  have kb := below_alloc (below_alloc HB3.out HB3.out.size (.cells #[.bool ta, .slice Aa na ca] 30)) (by have := HB3.out.size; rw [World.size_alloc]; omega) (.cells #[.bool tb, .slice Ab nb cb] 30)
  have kbw := below_alloc (below_alloc (Below.refl w3.heap.size w3) (Nat.le_refl _) (.cells #[.bool ta, .slice Aa na ca] 30)) (by rw [World.size_alloc]; omega) (.cells #[.bool tb, .slice Ab nb cb] 30)
  have VA := Lib.hid (HVa2.out.call kbw)
  have VB := Lib.hid (HVb.out.call kbw)
  clear HVa2 HVb HB3 kbw
  go_wp2_with fail
  generalize (w3.alloc (.cells #[.bool ta, .slice Aa na ca] 30)).alloc (.cells #[.bool tb, .slice Ab nb cb] 30) = w4 at *
  have K1 := Lib.hid k1; have K2 := Lib.hid k2; have KB := Lib.hid kb
  clear k1 k2 kb hG
  with_reducible refine (q1.out _).mono ?_
  rintro e w5 ⟨rfl, rfl⟩
  go_wp2_with fail
  with_reducible refine (q2.out _).mono ?_
  rintro e w6 ⟨rfl, hb⟩
  replace K1 := Lib.hid (K1.out.call hb); replace K2 := Lib.hid (K2.out.call hb); replace VA := Lib.hid (VA.out.call hb); replace VB := Lib.hid (VB.out.call hb); replace KB := Lib.hid (KB.out.trans (hb.mono KB.out.size))
  clear hb
  go_wp2_with fail
  with_reducible refine (q3.out _).mono ?_
  rintro e w7 ⟨rfl, hb⟩
  replace K1 := Lib.hid (K1.out.call hb); replace K2 := Lib.hid (K2.out.call hb); replace VA := Lib.hid (VA.out.call hb); replace VB := Lib.hid (VB.out.call hb); replace KB := Lib.hid (KB.out.trans (hb.mono KB.out.size))
  clear hb
  go_wp2_with fail
  with_reducible refine (q4.out _).mono ?_
  rintro e w8 ⟨rfl, hb⟩
  replace K1 := Lib.hid (K1.out.call hb); replace K2 := Lib.hid (K2.out.call hb); replace VA := Lib.hid (VA.out.call hb); replace VB := Lib.hid (VB.out.call hb); replace KB := Lib.hid (KB.out.trans (hb.mono KB.out.size))
  clear hb
  have e0 := K1.out.c0
  have e1 := K1.out.c1
  obtain ⟨H, hH⟩ : ∃ H, w8.heap.size = H := ⟨_, rfl⟩
  have k3 := BigBlk.mk w8 H false (.slice Aa na ca) hH
  have kbw := below_alloc (Below.refl w8.heap.size w8) (Nat.le_refl _) (.cells #[.bool false, .slice Aa na ca] 30)
  have VC := Lib.hid (VA.out.abs.call kbw)
  replace K1 := Lib.hid (K1.out.call kbw); replace K2 := Lib.hid (K2.out.call kbw); replace VA := Lib.hid (VA.out.call kbw); replace VB := Lib.hid (VB.out.call kbw); replace KB := Lib.hid (KB.out.trans (kbw.mono KB.out.size))
  go_wp2_with fail
  clear hH
  generalize w8.alloc (.cells #[.bool false, .slice Aa na ca] 30) = w9 at *
  have K3 := Lib.hid k3
  clear k3 kbw e0 e1 w8 q1 q2 q3 q4 qa qb a0
  have e0 := K1.out.c0; have e1 := K1.out.c1; have e2 := K2.out.c0; have e3 := K2.out.c1; have e4 := K3.out.c0; have e5 := K3.out.c1
  have l1 := K1.out.lt; have l2 := K2.out.lt; have l3 := K3.out.lt
  have HC : Hid (Below w9.heap.size w9 w9.drew) := (Below.refl _ _).drew
  have fNeg := Lib.hid (fun x w h => Neg_any x b w h SB.out.2.1)
  have fAdd := Lib.hid (fun x y w h1 h2 => BAdd_any x y a b w h1 h2 SB.out.1 SB.out.2.1)
  have fSub := Lib.hid (fun x y w h1 h2 => BAdd_any x y a (-b) w h1 h2 SB.out.1 SB.out.2.2.1)
  have fMul := Lib.hid (fun x y w h1 h2 => BMul_any x y a b w h1 h2 SB.out.1 SB.out.2.1)
  refine wp_region_D [] (fun wz => Hid (Below w9.heap.size w9 wz)) 30 #[false, false, false, false, false, false, false, false, false, false, false, false, false, false, false, false, false, false, false, false, false, false, false, false, false, false, false, false, false, false] (by kernel_rfl) (by kernel_rfl) (by kernel_rfl) ?_
  replace VA : Hid (BigAt w9.drew (.agg #[.bool ta, .slice Aa na ca]) a) := VA.out
  replace VB : Hid (BigAt w9.drew (.agg #[.bool tb, .slice Ab nb cb]) b) := VB.out
  replace VC : Hid (BigAt w9.drew (.agg #[.bool false, .slice Aa na ca]) (a.natAbs : Int)) := VC.out
  refine pure_moreD [0, 1, 2, 3] 26 (L' := #[true, true, true, true, false, false, false, false, false, false, false, false, false, false, false, false, false, false, false, false, false, false, false, false, false, false, false, false, false, false]) (by kernel_rfl) (by kernel_rfl) HC ?_
  simp only [opsAt, List.getElem?_toArray, List.getElem?_cons_zero, List.getElem?_cons_succ]
  refine pure_moveG rfl rfl ?_
  refine pure_moveG rfl rfl ?_
  refine pure_atG (.agg #[.bool ta, .slice Aa na ca]) rfl (fun wz hC => by have h0 := ((Hid.out hC).cell (p := ⟨G, 0, none⟩) l1).trans e0; have h1 := ((Hid.out hC).cell (p := ⟨G, 1, none⟩) l1).trans e1; unfold execOp; go_simp) ?_
  refine pure_atG (.agg #[.bool tb, .slice Ab nb cb]) rfl (fun wz hC => by have h0 := ((Hid.out hC).cell (p := ⟨G + 1, 0, none⟩) l2).trans e2; have h1 := ((Hid.out hC).cell (p := ⟨G + 1, 1, none⟩) l2).trans e3; unfold execOp; go_simp) ?_
  unfold wpPure
  go_simp
  refine wpAnyD_one 4 (f := 25) (L' := #[true, true, true, true, true, false, false, false, false, false, false, false, false, false, false, false, false, false, false, false, false, false, false, false, false, false, false, false, false, false]) (by kernel_rfl) (by kernel_rfl) rfl rfl ?_
  go_wp2_with fail
  with_reducible refine (fAdd.out _ _ _ VA VB).mono ?_
  rintro e w10 ⟨⟨v, rfl, hv⟩, hb⟩
  obtain ⟨tx, Ax, nx, cx, rfl⟩ := hv.form
  have Vx := Lib.hid hv
  clear hv
  replace HC : Hid (Below w9.heap.size w9 w10) := HC.out.trans (hb.mono HC.out.size)
  replace VA := Lib.hid (VA.out.call hb)
  replace VB := Lib.hid (VB.out.call hb)
  replace VC := Lib.hid (VC.out.call hb)
  clear hb
  go_wp2_with fail
  rw [StepQ_normal]
  refine ⟨fun _ => HC, ?_⟩
  refine wpAnyD_one 5 (f := 24) (L' := #[true, true, true, true, true, true, false, false, false, false, false, false, false, false, false, false, false, false, false, false, false, false, false, false, false, false, false, false, false, false]) (by kernel_rfl) (by kernel_rfl) rfl rfl ?_
  go_wp2_with fail
  with_reducible refine (r1.out _ _ Vx).mono ?_
  rintro e w11 ⟨rfl, hb⟩
  replace HC : Hid (Below w9.heap.size w9 w11) := HC.out.trans (hb.mono HC.out.size)
  replace VA := Lib.hid (VA.out.call hb)
  replace VB := Lib.hid (VB.out.call hb)
  replace VC := Lib.hid (VC.out.call hb)
  clear hb
  go_wp2_with fail
  rw [StepQ_normal]
  refine ⟨fun _ => HC, ?_⟩
  clear Vx
  refine pure_moreD [6] 23 (L' := #[true, true, true, true, true, true, true, false, false, false, false, false, false, false, false, false, false, false, false, false, false, false, false, false, false, false, false, false, false, false]) (by kernel_rfl) (by kernel_rfl) HC ?_
  simp only [opsAt, List.getElem?_toArray, List.getElem?_cons_zero, List.getElem?_cons_succ]
  refine pure_moveG rfl rfl ?_
  unfold wpPure
  go_simp
  refine pure_moreD [7, 8, 9, 10] 19 (L' := #[true, true, true, true, true, true, true, true, true, true, true, false, false, false, false, false, false, false, false, false, false, false, false, false, false, false, false, false, false, false]) (by kernel_rfl) (by kernel_rfl) HC ?_
  simp only [opsAt, List.getElem?_toArray, List.getElem?_cons_zero, List.getElem?_cons_succ]
  refine pure_moveG rfl rfl ?_
  refine pure_moveG rfl rfl ?_
  refine pure_atG (.agg #[.bool ta, .slice Aa na ca]) rfl (fun wz hC => by have h0 := ((Hid.out hC).cell (p := ⟨G, 0, none⟩) l1).trans e0; have h1 := ((Hid.out hC).cell (p := ⟨G, 1, none⟩) l1).trans e1; unfold execOp; go_simp) ?_
  refine pure_atG (.agg #[.bool tb, .slice Ab nb cb]) rfl (fun wz hC => by have h0 := ((Hid.out hC).cell (p := ⟨G + 1, 0, none⟩) l2).trans e2; have h1 := ((Hid.out hC).cell (p := ⟨G + 1, 1, none⟩) l2).trans e3; unfold execOp; go_simp) ?_
  unfold wpPure
  go_simp
  refine wpAnyD_one 11 (f := 18) (L' := #[true, true, true, true, true, true, true, true, true, true, true, true, false, false, false, false, false, false, false, false, false, false, false, false, false, false, false, false, false, false]) (by kernel_rfl) (by kernel_rfl) rfl rfl ?_
  go_wp2_with fail
  with_reducible refine (fNeg.out _ _ VB).mono ?_
  rintro e w12 ⟨⟨v, rfl, hv⟩, hb⟩
  obtain ⟨ty, Ay, ny, cy, rfl⟩ := hv.form
  have Vy := Lib.hid hv
  clear hv
  replace HC : Hid (Below w9.heap.size w9 w12) := HC.out.trans (hb.mono HC.out.size)
  replace VA := Lib.hid (VA.out.call hb)
  replace VB := Lib.hid (VB.out.call hb)
  replace VC := Lib.hid (VC.out.call hb)
  clear hb
  go_wp2_with fail
  rw [StepQ_normal]
  refine ⟨fun _ => HC, ?_⟩
  refine wpAnyD_one 12 (f := 17) (L' := #[true, true, true, true, true, true, true, true, true, true, true, true, true, false, false, false, false, false, false, false, false, false, false, false, false, false, false, false, false, false]) (by kernel_rfl) (by kernel_rfl) rfl rfl ?_
  go_wp2_with fail
  with_reducible refine (fSub.out _ _ _ VA Vy).mono ?_
  rintro e w13 ⟨⟨v, rfl, hv⟩, hb⟩
  obtain ⟨tz, Az, nz, cz, rfl⟩ := hv.form
  have Vz := Lib.hid hv
  clear hv
  replace HC : Hid (Below w9.heap.size w9 w13) := HC.out.trans (hb.mono HC.out.size)
  replace VA := Lib.hid (VA.out.call hb)
  replace VB := Lib.hid (VB.out.call hb)
  replace VC := Lib.hid (VC.out.call hb)
  clear hb
  go_wp2_with fail
  rw [StepQ_normal]
  refine ⟨fun _ => HC, ?_⟩
  refine wpAnyD_one 13 (f := 16) (L' := #[true, true, true, true, true, true, true, true, true, true, true, true, true, true, false, false, false, false, false, false, false, false, false, false, false, false, false, false, false, false]) (by kernel_rfl) (by kernel_rfl) rfl rfl ?_
  go_wp2_with fail
  with_reducible refine (r2.out _ _ Vz).mono ?_
  rintro e w14 ⟨rfl, hb⟩
  replace HC : Hid (Below w9.heap.size w9 w14) := HC.out.trans (hb.mono HC.out.size)
  replace VA := Lib.hid (VA.out.call hb)
  replace VB := Lib.hid (VB.out.call hb)
  replace VC := Lib.hid (VC.out.call hb)
  clear hb
  go_wp2_with fail
  rw [StepQ_normal]
  refine ⟨fun _ => HC, ?_⟩
  clear Vz
  refine pure_moreD [14, 15] 14 (L' := #[true, true, true, true, true, true, true, true, true, true, true, true, true, true, true, true, false, false, false, false, false, false, false, false, false, false, false, false, false, false]) (by kernel_rfl) (by kernel_rfl) HC ?_
  simp only [opsAt, List.getElem?_toArray, List.getElem?_cons_zero, List.getElem?_cons_succ]
  refine pure_atG (.bool true) rfl (fun wz _ => by unfold execOp; go_simp) ?_
  refine pure_moveG rfl rfl ?_
  unfold wpPure
  go_simp
  refine pure_moreD [16, 17, 18, 19] 10 (L' := #[true, true, true, true, true, true, true, true, true, true, true, true, true, true, true, true, true, true, true, true, false, false, false, false, false, false, false, false, false, false]) (by kernel_rfl) (by kernel_rfl) HC ?_
  simp only [opsAt, List.getElem?_toArray, List.getElem?_cons_zero, List.getElem?_cons_succ]
  refine pure_moveG rfl rfl ?_
  refine pure_moveG rfl rfl ?_
  refine pure_atG (.agg #[.bool ta, .slice Aa na ca]) rfl (fun wz hC => by have h0 := ((Hid.out hC).cell (p := ⟨G, 0, none⟩) l1).trans e0; have h1 := ((Hid.out hC).cell (p := ⟨G, 1, none⟩) l1).trans e1; unfold execOp; go_simp) ?_
  refine pure_atG (.agg #[.bool tb, .slice Ab nb cb]) rfl (fun wz hC => by have h0 := ((Hid.out hC).cell (p := ⟨G + 1, 0, none⟩) l2).trans e2; have h1 := ((Hid.out hC).cell (p := ⟨G + 1, 1, none⟩) l2).trans e3; unfold execOp; go_simp) ?_
  unfold wpPure
  go_simp
  refine wpAnyD_one 20 (f := 9) (L' := #[true, true, true, true, true, true, true, true, true, true, true, true, true, true, true, true, true, true, true, true, true, false, false, false, false, false, false, false, false, false]) (by kernel_rfl) (by kernel_rfl) rfl rfl ?_
  go_wp2_with fail
  with_reducible refine (fMul.out _ _ _ VA VB).mono ?_
  rintro e w15 ⟨⟨v, rfl, hv⟩, hb⟩
  obtain ⟨tu, Au, nu, cu, rfl⟩ := hv.form
  have Vu := Lib.hid hv
  clear hv
  replace HC : Hid (Below w9.heap.size w9 w15) := HC.out.trans (hb.mono HC.out.size)
  replace VA := Lib.hid (VA.out.call hb)
  replace VB := Lib.hid (VB.out.call hb)
  replace VC := Lib.hid (VC.out.call hb)
  clear hb
  go_wp2_with fail
  rw [StepQ_normal]
  refine ⟨fun _ => HC, ?_⟩
  refine wpAnyD_one 21 (f := 8) (L' := #[true, true, true, true, true, true, true, true, true, true, true, true, true, true, true, true, true, true, true, true, true, true, false, false, false, false, false, false, false, false]) (by kernel_rfl) (by kernel_rfl) rfl rfl ?_
  go_wp2_with fail
  with_reducible refine (r3.out _ _ Vu).mono ?_
  rintro e w16 ⟨rfl, hb⟩
  replace HC : Hid (Below w9.heap.size w9 w16) := HC.out.trans (hb.mono HC.out.size)
  replace VA := Lib.hid (VA.out.call hb)
  replace VB := Lib.hid (VB.out.call hb)
  replace VC := Lib.hid (VC.out.call hb)
  clear hb
  go_wp2_with fail
  rw [StepQ_normal]
  refine ⟨fun _ => HC, ?_⟩
  refine pure_moreD [22, 23] 6 (L' := #[true, true, true, true, true, true, true, true, true, true, true, true, true, true, true, true, true, true, true, true, true, true, true, true, false, false, false, false, false, false]) (by kernel_rfl) (by kernel_rfl) HC ?_
  simp only [opsAt, List.getElem?_toArray, List.getElem?_cons_zero, List.getElem?_cons_succ]
  refine pure_atG (.bool true) rfl (fun wz _ => by unfold execOp; go_simp) ?_
  refine pure_moveG rfl rfl ?_
  unfold wpPure
  go_simp
  refine pure_moreD [24, 25, 26] 3 (L' := #[true, true, true, true, true, true, true, true, true, true, true, true, true, true, true, true, true, true, true, true, true, true, true, true, true, true, true, false, false, false]) (by kernel_rfl) (by kernel_rfl) HC ?_
  simp only [opsAt, List.getElem?_toArray, List.getElem?_cons_zero, List.getElem?_cons_succ]
  refine pure_moveG rfl rfl ?_
  refine pure_moveG rfl rfl ?_
  refine pure_atG (.agg #[.bool false, .slice Aa na ca]) rfl (fun wz hC => by have h0 := ((Hid.out hC).cell (p := ⟨H, 0, none⟩) l3).trans e4; have h1 := ((Hid.out hC).cell (p := ⟨H, 1, none⟩) l3).trans e5; unfold execOp; go_simp) ?_
  unfold wpPure
  go_simp
  refine wpAnyD_one 27 (f := 2) (L' := #[true, true, true, true, true, true, true, true, true, true, true, true, true, true, true, true, true, true, true, true, true, true, true, true, true, true, true, true, false, false]) (by kernel_rfl) (by kernel_rfl) rfl rfl ?_
  go_wp2_with fail
  with_reducible refine (r4.out _ _ VC).mono ?_
  rintro e w17 ⟨rfl, hb⟩
  replace HC : Hid (Below w9.heap.size w9 w17) := HC.out.trans (hb.mono HC.out.size)
  clear hb
  go_wp2_with fail
  rw [StepQ_normal]
  refine ⟨fun _ => HC, ?_⟩
  refine pure_moreD [28] 1 (L' := #[true, true, true, true, true, true, true, true, true, true, true, true, true, true, true, true, true, true, true, true, true, true, true, true, true, true, true, true, true, false]) (by kernel_rfl) (by kernel_rfl) HC ?_
  simp only [opsAt, List.getElem?_toArray, List.getElem?_cons_zero, List.getElem?_cons_succ]
  refine pure_atG (.bool true) rfl (fun wz _ => by unfold execOp; go_simp) ?_
  unfold wpPure
  go_simp
  refine wpAnyD_one 29 (f := 0) (L' := #[true, true, true, true, true, true, true, true, true, true, true, true, true, true, true, true, true, true, true, true, true, true, true, true, true, true, true, true, true, true]) (by kernel_rfl) (by kernel_rfl) rfl rfl ?_
  go_wp2_with fail
  rw [StepQ_normal]
  refine ⟨fun _ => HC, ?_⟩
  refine ⟨by kernel_rfl, ?_⟩
  rw [OnlyN_normal]
  go_wp2_with fail
  go_ret
  exact ⟨rfl, KB.out.trans (HC.out.mono KB.out.size)⟩
end Go.Proofs.Yteeemoknbnlopaa
