/- The walk of MoneySums (printed by genBigK.py). -/
import Derived.Test.YteeemoknbnlopaaBigJ
import Derived.Test.YteeemoknbnlopaaMoneyH
namespace Go.Proofs.Yteeemoknbnlopaa
open Go Go.RowKit Bg Mon
set_option linter.unusedVariables false

theorem DigAt.grown {w w' : World} {A : Option Addr} {n G : Nat} {f : Nat → Nat} {V : Int} (h : DigAt w A n f) (hg : w.grownBy w' (some G)) (hs : SumAt w G V) : DigAt w' A n f := fun i hi => by
  obtain ⟨b, o, e, hlt, hc⟩ := h i hi
  have hne : b ≠ G := fun hbG => by
    subst hbG
    rw [cell_of_row w b (o + i) _ _ _ hs] at hc
    match o + i, hc with
    | 0, hc => cases hc
    | 1, hc => cases hc
    | 2, hc => cases hc
    | k + 3, hc => cases hc
  have hblk := hg.block b hlt (fun e => hne (Option.some.inj e))
  refine ⟨b, o, e, Nat.lt_of_lt_of_le hlt hg.size, ?_⟩
  unfold World.cell? at hc ⊢
  rw [hblk]; exact hc
theorem BigAt.grown {w w' : World} {v : Value} {z V : Int} {G : Nat} (h : BigAt w v z) (hg : w.grownBy w' (some G)) (hs : SumAt w G V) : BigAt w' v z := by
  obtain ⟨A, n, c, f, e, hc, hv, hd, hn⟩ := h
  exact ⟨A, n, c, f, e, hc, hv, hd.grown hg hs, hn⟩

theorem BigAt.neg {w : World} {z : Int} {t : Bool} {A : Option Addr} {n c : Nat} (h : BigAt w (.agg #[.bool t, .slice A n c]) z) : t = decide (z < 0) := by
  obtain ⟨A', n', c', f, e, _⟩ := h
  cases e
  rfl
theorem AddMul_nil (a b : Int) (w : World) : Calls Try.prog 12 #[.pointer none, .int .i64 a, .int .i64 b] w fun r w' => r = .returned (.tuple #[]) ∧ w = w' := by
  go_enter Try.func12, Try.ntmps12
  go_wp2_with fail
  refine bodyPost_ret (v := .tuple #[]) ?_ rfl ⟨rfl, rfl⟩
  simp [results, Try.results12]
theorem Add_nil (a : Int) (w : World) : Calls Try.prog 11 #[.pointer none, .int .i64 a] w fun r w' => r = .returned (.tuple #[]) ∧ w = w' := by
  have q := Lib.hid (fun w => AddMul_nil a 1 w)
  go_enter Try.func11, Try.ntmps11
  go_wp2_with fail
  with_reducible refine (q.out _).mono ?_
  rintro e w1 ⟨rfl, rfl⟩
  go_wp2_with fail
  go_end0
  exact ⟨rfl, rfl⟩
theorem Total_nil (w : World) : Calls Try.prog 16 #[.pointer none] w fun r w' => r = .returned (.tuple #[.int .i64 0, .bool false]) ∧ w = w' := by
  go_enter Try.func16, Try.ntmps16
  go_wp2_with fail
  go_ret2
  exact ⟨rfl, rfl⟩
theorem Share_nil (r : Int) (w : World) : Calls Try.prog 18 #[.pointer none, .int .i64 r] w fun e w' => e = .returned (.tuple #[.int .i64 0, .bool false]) ∧ w = w' := by
  go_enter Try.func18, Try.ntmps18
  go_wp2_with fail
  go_ret2
  exact ⟨rfl, rfl⟩

theorem sums_bound (f : Nat → Int × Int) (n : Nat) (h : ∀ i, i < n → I64 (f i).1 ∧ I64 (f i).2) : ∀ k, k ≤ n → (sumTo (fun i => (f i).1 * (f i).2) k).natAbs ≤ k * 85070591730234615865843651857942052864
  | 0, _ => by simp [sumTo]
  | k + 1, hk => by
    have h1 := sums_bound f n h k (by omega)
    have h2 := prod_bound (h k (by omega)).1 (h k (by omega)).2
    show (sumTo _ k + (f k).1 * (f k).2).natAbs ≤ _
    omega
theorem share_fits {X r : Int} (h0 : 0 ≤ X) (hX : X.natAbs ≤ 61 * 85070591730234615865843651857942052864) (hr : 0 ≤ r) (hr2 : r ≤ 1000) : share (X % M3) r = fitsP (up100 (X * r)) := by
  have e1 : X % M3 = X := by unfold M3; omega
  have h1 : 0 ≤ X * r := Int.mul_nonneg h0 hr
  have h2 : X * r ≤ 5189306095544311567816471763335375224704 * 1000 := Int.mul_le_mul (by omega) hr2 hr (by decide)
  have e2 : (X * r) % M3 = X * r := by unfold M3; omega
  have e3 : (X * r + 99) % M3 = X * r + 99 := by unfold M3; omega
  unfold share
  rw [e1, if_pos ⟨by omega, hr, hr2⟩, e2, e3]
  unfold up100
  by_cases h3 : (X * r + 99) / 100 ≤ 9223372036854775807
  · rw [if_pos h3, fits_in (by omega)]
  · rw [if_neg h3, fits_out (by omega)]
theorem share_off {V r : Int} (h : ¬ (V < 3138550867693340381917894711603833208051177722232017256448 ∧ 0 ≤ r ∧ r ≤ 1000)) : share V r = (0, false) := by unfold share; rw [if_neg h]

set_option maxRecDepth 100000 in
set_option maxHeartbeats 4000000 in
theorem MoneySums_walk (A : Option Addr) (n c : Nat) (f : Nat → Int × Int) (rate : Int) (w : World) (hA : Hid (TwosAt w A n f)) (hr : Hid (I64 rate)) (hn : n ≤ 9223372036854775807) :
    Calls Try.prog 3 #[.slice A n c, .int .i64 rate] w fun e w' => e = .returned (.bool true) ∧ Below w.heap.size w w' := by
  have a0 := Lib.hid (alive05 w)
  have qM := Lib.hid (fun g V a b h1 h2 h3 w h4 => AddMul_any g V a b h1 h2 h3 w h4)
  have qN := Lib.hid (fun g V a h1 h2 w h4 => Add_any g V a h1 h2 w h4)
  have z1 := Lib.hid (fun w => AddMul_nil 1 1 w)
  have z2 := Lib.hid (fun w => Add_nil 1 w)
  have z3 := Lib.hid (fun w => Total_nil w)
  have z4 := Lib.hid (fun w => Share_nil 1 w)
  go_enter Try.func3, Try.ntmps3
  go_wp2_with fail
  with_reducible refine a0.out.mono ?_
  rintro e w1 ⟨rfl, hb1⟩
  have HB1 := Lib.hid hb1
  clear hb1
  by_cases hn6 : 60 < n
  · have e1 : decide (60 < (n : Int)) = true := by simp; omega
    go_wp2_with fail
    go_ret
    exact ⟨rfl, HB1.out⟩
  · have e1 : decide (60 < (n : Int)) = false := by simp; omega
    have HBD := Lib.hid (sums_bound f n (fun i hi => by obtain ⟨b, o, _, _, _, _, h1, h2⟩ := hA.out i hi; exact ⟨h1, h2⟩))
    obtain ⟨G, hG⟩ : ∃ G, w1.heap.size = G := ⟨_, rfl⟩
    have k1 := (sum_new w1).alloc (.cells #[.bool false, .slice none 0 0] 30)
    have k2 := BigBlk.mk (w1.alloc (.cells #[.int .u64 0, .int .u64 0, .int .u64 0] 27)) (G + 1) false (.slice none 0 0) (by rw [World.size_alloc, hG])
    have kb := below_alloc (below_alloc HB1.out HB1.out.size (.cells #[.int .u64 0, .int .u64 0, .int .u64 0] 27)) (by have := HB1.out.size; rw [World.size_alloc]; omega) (.cells #[.bool false, .slice none 0 0] 30)
    rw [hG] at k1
    go_wp2_with fail
    have hwG : w.heap.size ≤ G := by rw [← hG]; exact HB1.out.size
    generalize (w1.alloc (.cells #[.int .u64 0, .int .u64 0, .int .u64 0] 27)).alloc (.cells #[.bool false, .slice none 0 0] 30) = w2 at *
    have K1 := Lib.hid k1; have K2 := Lib.hid k2; have KB := Lib.hid kb
    clear k1 k2 kb hG a0
    go_loopw [7, 8, 9, 10, 11] (fun s7 s8 s9 s10 s11 wr => ∃ (k : Nat) (t : Bool) (B : Option Addr) (m d : Nat), k ≤ n ∧ s7 = .int .i64 k ∧ Hid (SumAt wr G (sumTo (fun i => (f i).1 * (f i).2) k % M3)) ∧
      Hid (BigBlk wr (G + 1) t (.slice B m d)) ∧ Hid (BigAt wr (.agg #[.bool t, .slice B m d]) (sumTo (fun i => (f i).1 * (f i).2) k)) ∧ Hid (Below w.heap.size w wr)) (fun s7 _ _ _ _ _ => n - (intOf s7).toNat)
    case atStart => exact ⟨0, false, none, 0, 0, Nat.zero_le _, rfl, K1.out, K2.out, ⟨none, 0, 0, fun _ => 0, rfl, ⟨⟨fun _ => by omega, fun _ _ => rfl⟩, .inl rfl⟩, rfl, fun i hi => by omega, Nat.le_refl _⟩, KB.out⟩
    case round =>
      clear K1 K2 KB
      obtain ⟨k, t, B, m, d, hk, rfl, K1, K2, KV, KB⟩ := hrel
      by_cases hkn : k = n
      · have hkn' : ¬ ((k : Int) < n) := by omega
        clear hkn hk hA qM qN K1 K2 KV HBD
        go_wp2_with fail
        with_reducible refine (z2.out _).mono ?_
        rintro e w3 ⟨rfl, rfl⟩
        go_wp2_with fail
        with_reducible refine (z1.out _).mono ?_
        rintro e w3 ⟨rfl, rfl⟩
        go_wp2_with fail
        with_reducible refine (z3.out _).mono ?_
        rintro e w3 ⟨rfl, rfl⟩
        go_wp2_with fail
        with_reducible refine (z4.out _).mono ?_
        rintro e w3 ⟨rfl, rfl⟩
        go_wp2_with fail
        go_ret
        exact ⟨rfl, KB.out⟩
      · have hlt : k < n := by omega
        have hlt' : (k : Int) < n := by omega
        obtain ⟨b, o, rfl, hb, x0, x1, i0, i1⟩ := hA.out k hlt
        have hbd := HBD.out (k + 1) (by omega)
        have hbd0 := HBD.out k (by omega)
        have hX1 : sumTo (fun i => (f i).1 * (f i).2) (k + 1) = sumTo (fun i => (f i).1 * (f i).2) k + (f k).1 * (f k).2 := rfl
        obtain ⟨X, hX⟩ : ∃ X, sumTo (fun i => (f i).1 * (f i).2) k = X := ⟨_, rfl⟩
        obtain ⟨Y, hY⟩ : ∃ Y, sumTo (fun i => (f i).1 * (f i).2) (k + 1) = Y := ⟨_, rfl⟩
        rw [hX] at hX1 hbd0 K1 KV
        rw [hY] at hX1 hbd
        have HY := Lib.hid hY
        have hpb := prod_bound i0 i1
        have i0' := Lib.hid i0; have i1' := Lib.hid i1
        have x0' := Lib.hid x0; have x1' := Lib.hid x1
        have c0 := (KB.out.cell (p := ⟨b, o + k * 2, none⟩) hb).trans x0
        have c1 := (KB.out.cell (p := ⟨b, o + k * 2 + 1, none⟩) hb).trans x1
        obtain ⟨p, hp⟩ : ∃ p, (f k).1 = p := ⟨_, rfl⟩
        obtain ⟨q, hq⟩ : ∃ q, (f k).2 = q := ⟨_, rfl⟩
        rw [hp] at hX1 hpb c0 i0' x0'
        rw [hq] at hX1 hpb c1 i1' x1'
        have HX1 := Lib.hid hX1
        have HB3 := Lib.hid (And.intro hbd (And.intro hbd0 hpb))
        have hbr : b < wr.heap.size := Nat.lt_of_lt_of_le hb KB.out.size
        clear i0 i1 x0 x1 hX hY hX1 hbd hbd0 hpb hp hq
        by_cases hq1 : q = 1
        · have hq2 : (q == 1) = true := by simpa using hq1
          have HQ1 := Lib.hid hq1
          clear hq1
          go_wp2_with fail
          with_reducible refine (qN.out G _ p (ok_mod _) i0'.out _ K1).mono ?_
          rintro e w4 ⟨rfl, h1, h2⟩
          rw [turn_add, show X + p = Y by have := HX1.out; rw [HQ1.out] at this; omega] at h1
          have KS := K1
          replace K1 := Lib.hid h1
          replace K2 : Hid (BigBlk w4 (G + 1) t (.slice B m d)) := (h2.block (G + 1) K2.out.lt (by intro h; have := Option.some.inj h; omega)).trans K2.out
          have KV4 : Hid (BigAt w4 (.agg #[.bool t, .slice B m d]) X) := KV.out.grown h2 KS.out
          clear KV
          replace KB := Lib.hid (below_of_grown KB.out h2 hwG KB.out.size)
          clear h1 h2 c0 c1 hbr KS
          have e0 := K2.out.c0
          have e1 := K2.out.c1
          have c0 := (KB.out.cell (p := ⟨b, o + k * 2, none⟩) hb).trans x0'.out
          have c1 := (KB.out.cell (p := ⟨b, o + k * 2 + 1, none⟩) hb).trans x1'.out
          have hbr : b < w4.heap.size := Nat.lt_of_lt_of_le hb KB.out.size
          have l1 := K2.out.lt
          have HC : Hid (Below w4.heap.size w4 w4.drew) := (Below.refl _ _).drew
          have fP := Lib.hid (fun w => Of_any p i0'.out w)
          have fQ := Lib.hid (fun w => Of_any q i1'.out w)
          have b1 : p.natAbs < 10000 ^ 40 := small40 (by have := i0'.out; unfold I64 at this; omega)
          have b2 : q.natAbs < 10000 ^ 40 := small40 (by have := i1'.out; unfold I64 at this; omega)
          have b3 : (p * q).natAbs < 10000 ^ 40 := small40 (by have := HB3.out.2.2; omega)
          have b4 : X.natAbs < 10000 ^ 40 := small40 (by have := HB3.out.2.1; omega)
          have b5 : Y.natAbs < 10000 ^ 40 := small40 (by have := HB3.out.1; omega)
          have fM := Lib.hid (fun x y w h1 h2 => BMul_any x y p q w h1 h2 b1 b2)
          have fA := Lib.hid (fun x y w h1 h2 => BAdd_any x y X (p * q) w h1 h2 b4 b3)
          rw [← HX1.out] at fA
          have B5 := Lib.hid b5
          clear b1 b2 b3 b4 b5
          go_wp2_with fail
          replace KV4 : Hid (BigAt w4.drew (.agg #[.bool t, .slice B m d]) X) := KV4.out
          refine wp_region_D [15] (fun wz => Hid (Below w4.heap.size w4 wz)) 16 #[false, false, false, false, false, false, false, false, false, false, false, false, false, false, false, false] (by kernel_rfl) (by kernel_rfl) (by kernel_rfl) ?_
          refine pure_moreD [0, 1, 2, 3, 4, 5, 7, 8, 9, 10, 11] 5 (L' := #[true, true, true, true, true, true, false, true, true, true, true, true, false, false, false, false]) (by kernel_rfl) (by kernel_rfl) HC ?_
          simp only [opsAt, List.getElem?_toArray, List.getElem?_cons_zero, List.getElem?_cons_succ]
          refine pure_atG (.agg #[.bool t, .slice B m d]) rfl (fun wz hC => by have h0 := ((Hid.out hC).cell (p := ⟨G + 1, 0, none⟩) l1).trans e0; have h1 := ((Hid.out hC).cell (p := ⟨G + 1, 1, none⟩) l1).trans e1; unfold execOp; go_simp) ?_
          refine pure_moveG rfl rfl ?_
          refine pure_moveG rfl rfl ?_
          refine pure_atG (.pointer (some ⟨b, o + k * 2, none⟩)) rfl (fun wz _ => by unfold execOp; go_simp) ?_
          refine pure_atG (.pointer (some ⟨b, o + k * 2, none⟩)) rfl (fun wz _ => by unfold execOp; go_simp) ?_
          refine pure_atG (.int .i64 p) rfl (fun wz hC => by have h0 := ((Hid.out hC).cell (p := ⟨b, o + k * 2, none⟩) hbr).trans c0; unfold execOp; go_simp) ?_
          refine pure_moveG rfl rfl ?_
          refine pure_moveG rfl rfl ?_
          refine pure_atG (.pointer (some ⟨b, o + k * 2, none⟩)) rfl (fun wz _ => by unfold execOp; go_simp) ?_
          refine pure_atG (.pointer (some ⟨b, o + k * 2 + 1, none⟩)) rfl (fun wz _ => by unfold execOp; go_simp) ?_
          refine pure_atG (.int .i64 q) rfl (fun wz hC => by have h0 := ((Hid.out hC).cell (p := ⟨b, o + k * 2 + 1, none⟩) hbr).trans c1; unfold execOp; go_simp) ?_
          unfold wpPure
          go_simp
          refine wpAnyD_one 6 (f := 4) (L' := #[true, true, true, true, true, true, true, true, true, true, true, true, false, false, false, false]) (by kernel_rfl) (by kernel_rfl) rfl rfl ?_
          go_wp2_with fail
          with_reducible refine (fP.out _).mono ?_
          rintro e w5 ⟨⟨v, rfl, hv⟩, hb⟩
          obtain ⟨ta, Aa, na, ca, rfl⟩ := hv.form
          have Va := Lib.hid hv
          clear hv
          replace HC : Hid (Below w4.heap.size w4 w5) := HC.out.trans (hb.mono HC.out.size)
          replace KV4 := Lib.hid (KV4.out.call hb)
          clear hb
          go_wp2_with fail
          rw [StepQ_normal]
          refine ⟨fun _ => HC, ?_⟩
          refine wpAnyD_one 12 (f := 3) (L' := #[true, true, true, true, true, true, true, true, true, true, true, true, true, false, false, false]) (by kernel_rfl) (by kernel_rfl) rfl rfl ?_
          go_wp2_with fail
          with_reducible refine (fQ.out _).mono ?_
          rintro e w6 ⟨⟨v, rfl, hv⟩, hb⟩
          obtain ⟨tb, Ab, nb, cb, rfl⟩ := hv.form
          have Vb := Lib.hid hv
          clear hv
          replace HC : Hid (Below w4.heap.size w4 w6) := HC.out.trans (hb.mono HC.out.size)
          replace KV4 := Lib.hid (KV4.out.call hb)
          replace Va := Lib.hid (Va.out.call hb)
          clear hb
          go_wp2_with fail
          rw [StepQ_normal]
          refine ⟨fun _ => HC, ?_⟩
          refine wpAnyD_one 13 (f := 2) (L' := #[true, true, true, true, true, true, true, true, true, true, true, true, true, true, false, false]) (by kernel_rfl) (by kernel_rfl) rfl rfl ?_
          go_wp2_with fail
          with_reducible refine (fM.out _ _ _ Va Vb).mono ?_
          rintro e w7 ⟨⟨v, rfl, hv⟩, hb⟩
          obtain ⟨tc, Ac, nc, cc, rfl⟩ := hv.form
          have Vc := Lib.hid hv
          clear hv
          replace HC : Hid (Below w4.heap.size w4 w7) := HC.out.trans (hb.mono HC.out.size)
          replace KV4 := Lib.hid (KV4.out.call hb)
          clear hb
          go_wp2_with fail
          rw [StepQ_normal]
          refine ⟨fun _ => HC, ?_⟩
          refine wpAnyD_one 14 (f := 1) (L' := #[true, true, true, true, true, true, true, true, true, true, true, true, true, true, true, false]) (by kernel_rfl) (by kernel_rfl) rfl rfl ?_
          go_wp2_with fail
          with_reducible refine (fA.out _ _ _ KV4 Vc).mono ?_
          rintro e w8 ⟨⟨v, rfl, hv⟩, hb⟩
          obtain ⟨td, Ad, nd, cd, rfl⟩ := hv.form
          have Vd := Lib.hid hv
          clear hv
          replace HC : Hid (Below w4.heap.size w4 w8) := HC.out.trans (hb.mono HC.out.size)
          clear hb
          go_wp2_with fail
          rw [StepQ_normal]
          refine ⟨fun _ => HC, ?_⟩
          clear Va Vb Vc KV4 fP fQ fM fA e0 e1 c0 c1 hbr l1
          replace K1 := Lib.hid (K1.out.call HC.out)
          replace K2 := Lib.hid (K2.out.call HC.out)
          replace KB := Lib.hid (KB.out.trans (HC.out.mono KB.out.size))
          clear HC
          have e0 := K2.out.c0
          have e1 := K2.out.c1
          have e2 := K2.out.z 0
          have e3 := K2.out.z 1
          refine wpAnyD_one 15 (f := 0) (L' := #[true, true, true, true, true, true, true, true, true, true, true, true, true, true, true, true]) (by kernel_rfl) (by kernel_rfl) rfl rfl ?_
          go_wp2_with fail
          rw [StepQ_normal]
          refine ⟨fun h => absurd h (by decide), ?_⟩
          refine ⟨by kernel_rfl, ?_⟩
          rw [OnlyN_normal]
          replace K1 : Hid (SumAt ((w8.setCell ⟨G + 1, 0, none⟩ (.bool td)).setCell ⟨G + 1, 1, none⟩ (.slice Ad nd cd)) G (Y % M3)) := set_oth (set_oth K1.out _ _ (by omega)) _ _ (by omega)
          have KV := Lib.hid (Vd.out.store K2.out)
          replace K2 := Lib.hid ((K2.out.set0 td).set1 (.slice Ad nd cd))
          replace KB := Lib.hid ((KB.out.setCell (p := ⟨G + 1, 0, none⟩) (by show w.heap.size ≤ G + 1; omega) (.bool td)).setCell (p := ⟨G + 1, 1, none⟩) (by show w.heap.size ≤ G + 1; omega) (.slice Ad nd cd))
          clear Vd e0 e1 e2 e3
          generalize (w8.setCell ⟨G + 1, 0, none⟩ (.bool td)).setCell ⟨G + 1, 1, none⟩ (.slice Ad nd cd) = w9 at *
          have qT := Lib.hid (Total_any G (Y % M3) (ok_mod _) w9 K1)
          rw [total_fits (x := Y) (by have := HB3.out.1; omega)] at qT
          go_wp2_with fail
          with_reducible refine qT.out.mono ?_
          rintro e wz ⟨rfl, rfl⟩
          have e0 := K2.out.c0
          have e1 := K2.out.c1
          have qs := Lib.hid (same_any _ Y (fitsP Y).1 (fitsP Y).2 wz KV B5.out rfl)
          go_wp2_with fail
          with_reducible refine qs.out.mono ?_
          rintro e w10 ⟨rfl, hb2⟩
          replace K1 := Lib.hid (K1.out.call hb2)
          replace K2 := Lib.hid (K2.out.call hb2)
          replace KV := Lib.hid (KV.out.call hb2)
          replace KB := Lib.hid (KB.out.trans (hb2.mono KB.out.size))
          clear hb2 qT qs e0 e1
          clear wz
          have qS := Lib.hid (Share_any G (Y % M3) rate (ok_mod _) w10 K1)
          go_wp2_with fail
          with_reducible refine qS.out.mono ?_
          rintro e w11 ⟨rfl, hb2⟩
          replace K1 := Lib.hid (K1.out.call hb2)
          replace K2 := Lib.hid (K2.out.call hb2)
          replace KV := Lib.hid (KV.out.call hb2)
          replace KB := Lib.hid (KB.out.trans (hb2.mono KB.out.size))
          clear hb2 qS
          clear w10
          have htd := KV.out.neg
          have e0 := K2.out.c0
          have e1 := K2.out.c1
          have hbY := HB3.out.1
          by_cases hYn : Y < 0
          · have hso : share (Y % M3) rate = (0, false) := share_off (by unfold M3; omega)
            rw [decide_eq_true hYn] at htd
            subst htd
            rw [hso]
            clear hYn hbY hso
            go_wp2_with fail
            go_roundw
            case rel => exact ⟨k + 1, _, _, _, _, by omega, by go_num, by rw [HY.out]; exact K1.out, K2.out, by rw [HY.out]; exact KV.out, KB.out⟩
            case measure => simp [intOf]; omega
          · rw [decide_eq_false hYn] at htd
            subst htd
            by_cases hr0 : rate < 0
            · have hso : share (Y % M3) rate = (0, false) := share_off (by omega)
              have hd0 : decide (rate < 0) = true := decide_eq_true hr0
              rw [hso]
              clear hYn hbY hso hr0
              go_wp2_with fail
              go_roundw
              case rel => exact ⟨k + 1, _, _, _, _, by omega, by go_num, by rw [HY.out]; exact K1.out, K2.out, by rw [HY.out]; exact KV.out, KB.out⟩
              case measure => simp [intOf]; omega
            · by_cases hr1 : 1000 < rate
              · have hso : share (Y % M3) rate = (0, false) := share_off (by omega)
                have hd0 : decide (rate < 0) = false := decide_eq_false hr0
                have hd1 : decide (1000 < rate) = true := decide_eq_true hr1
                rw [hso]
                clear hYn hbY hso hr0 hr1
                go_wp2_with fail
                go_roundw
                case rel => exact ⟨k + 1, _, _, _, _, by omega, by go_num, by rw [HY.out]; exact K1.out, K2.out, by rw [HY.out]; exact KV.out, KB.out⟩
                case measure => simp [intOf]; omega
              · have hk60 : k + 1 ≤ 61 := by clear hbY; omega
                have hbY2 : Y.natAbs ≤ 61 * 85070591730234615865843651857942052864 := Nat.le_trans hbY (Nat.mul_le_mul_right _ hk60)
                have hY0 : 0 ≤ Y := Int.not_lt.1 hYn
                have hso : share (Y % M3) rate = fitsP (up100 (Y * rate)) := share_fits hY0 hbY2 (Int.not_lt.1 hr0) (Int.not_lt.1 hr1)
                have hd0 : decide (rate < 0) = false := decide_eq_false hr0
                have hd1 : decide (1000 < rate) = false := decide_eq_false hr1
                rw [hso]
                have hyr0 : 0 ≤ Y * rate := Int.mul_nonneg (by omega) (by omega)
                have hyr1 : Y * rate ≤ 5189306095544311567816471763335375224704 * 1000 := Int.mul_le_mul (by omega) (by omega) (by omega) (by decide)
                have hyr2 : (Y * rate).natAbs < 10000 ^ 39 := by
                  have h1 : (10000 : Nat) ^ 39 = 10000 ^ 19 * 10000 ^ 20 := by rw [← Nat.pow_add]
                  have h2 : (10000 : Nat) ^ 19 = 10000000000000000000000000000000000000000000000000000000000000000000000000000 := by decide
                  have h3 : 1 ≤ (10000 : Nat) ^ 20 := Nat.pow_pos (by decide)
                  have h4 : (10000 : Nat) ^ 19 * 1 ≤ 10000 ^ 19 * 10000 ^ 20 := Nat.mul_le_mul_left _ h3
                  rw [h1]; omega
                have hup : (up100 (Y * rate)).natAbs < 10000 ^ 40 := small40 (by unfold up100; omega)
                have fR := Lib.hid (fun w => Of_any rate hr.out w)
                have br : rate.natAbs < 10000 ^ 40 := small40 (by omega)
                have fM := Lib.hid (fun x y w h1 h2 => BMul_any x y Y rate w h1 h2 B5.out br)
                have fU := Lib.hid (fun x w h1 => UpBy_any x (Y * rate) w h1 hyr2 hyr0)
                have fS := Lib.hid (fun x w h1 => same_any x (up100 (Y * rate)) (fitsP (up100 (Y * rate))).1 (fitsP (up100 (Y * rate))).2 w h1 hup rfl)
                generalize fitsP (up100 (Y * rate)) = FF at *
                clear hYn hbY hbY2 hY0 hk60 hso hr0 hr1 hyr0 hyr1 hyr2 hup br
                have l1 := K2.out.lt
                have HC : Hid (Below w11.heap.size w11 w11.drew) := (Below.refl _ _).drew
                go_wp2_with fail
                replace KV : Hid (BigAt w11.drew (.agg #[.bool false, .slice Ad nd cd]) Y) := KV.out
                refine wp_region_D [] (fun wz => Hid (Below w11.heap.size w11 wz)) 9 #[false, false, false, false, false, false, false, false, false] (by kernel_rfl) (by kernel_rfl) (by kernel_rfl) ?_
                refine pure_moreD [0, 1, 2, 3] 5 (L' := #[true, true, true, true, false, false, false, false, false]) (by kernel_rfl) (by kernel_rfl) HC ?_
                simp only [opsAt, List.getElem?_toArray, List.getElem?_cons_zero, List.getElem?_cons_succ]
                refine pure_moveG rfl rfl ?_
                refine pure_moveG rfl rfl ?_
                refine pure_atG (.agg #[.bool false, .slice Ad nd cd]) rfl (fun wz hC => by have h0 := ((Hid.out hC).cell (p := ⟨G + 1, 0, none⟩) l1).trans e0; have h1 := ((Hid.out hC).cell (p := ⟨G + 1, 1, none⟩) l1).trans e1; unfold execOp; go_simp) ?_
                refine pure_moveG rfl rfl ?_
                unfold wpPure
                go_simp
                refine wpAnyD_one 4 (f := 4) (L' := #[true, true, true, true, true, false, false, false, false]) (by kernel_rfl) (by kernel_rfl) rfl rfl ?_
                go_wp2_with fail
                with_reducible refine (fR.out _).mono ?_
                rintro e w12 ⟨⟨v, rfl, hv⟩, hb⟩
                obtain ⟨te, Ae, ne, ce, rfl⟩ := hv.form
                have Ve := Lib.hid hv
                clear hv
                replace HC : Hid (Below w11.heap.size w11 w12) := HC.out.trans (hb.mono HC.out.size)
                replace KV := Lib.hid (KV.out.call hb)
                clear hb
                go_wp2_with fail
                rw [StepQ_normal]
                refine ⟨fun _ => HC, ?_⟩
                refine wpAnyD_one 5 (f := 3) (L' := #[true, true, true, true, true, true, false, false, false]) (by kernel_rfl) (by kernel_rfl) rfl rfl ?_
                go_wp2_with fail
                with_reducible refine (fM.out _ _ _ KV Ve).mono ?_
                rintro e w13 ⟨⟨v, rfl, hv⟩, hb⟩
                obtain ⟨tf, Af, nf, cf, rfl⟩ := hv.form
                have Vf := Lib.hid hv
                clear hv
                replace HC : Hid (Below w11.heap.size w11 w13) := HC.out.trans (hb.mono HC.out.size)
                replace KV := Lib.hid (KV.out.call hb)
                clear hb
                go_wp2_with fail
                rw [StepQ_normal]
                refine ⟨fun _ => HC, ?_⟩
                refine wpAnyD_one 6 (f := 2) (L' := #[true, true, true, true, true, true, true, false, false]) (by kernel_rfl) (by kernel_rfl) rfl rfl ?_
                go_wp2_with fail
                with_reducible refine (fU.out _ _ Vf).mono ?_
                rintro e w14 ⟨⟨v, rfl, hv⟩, hb⟩
                obtain ⟨tg, Ag, ng, cg, rfl⟩ := hv.form
                have Vg := Lib.hid hv
                clear hv
                replace HC : Hid (Below w11.heap.size w11 w14) := HC.out.trans (hb.mono HC.out.size)
                replace KV := Lib.hid (KV.out.call hb)
                clear hb
                go_wp2_with fail
                rw [StepQ_normal]
                refine ⟨fun _ => HC, ?_⟩
                refine wpAnyD_one 7 (f := 1) (L' := #[true, true, true, true, true, true, true, true, false]) (by kernel_rfl) (by kernel_rfl) rfl rfl ?_
                go_wp2_with fail
                with_reducible refine (fS.out _ _ Vg).mono ?_
                rintro e w15 ⟨rfl, hb⟩
                replace HC : Hid (Below w11.heap.size w11 w15) := HC.out.trans (hb.mono HC.out.size)
                replace KV := Lib.hid (KV.out.call hb)
                clear hb
                go_wp2_with fail
                rw [StepQ_normal]
                refine ⟨fun _ => HC, ?_⟩
                refine wpAnyD_one 8 (f := 0) (L' := #[true, true, true, true, true, true, true, true, true]) (by kernel_rfl) (by kernel_rfl) rfl rfl ?_
                go_wp2_with fail
                rw [StepQ_normal]
                refine ⟨fun _ => HC, ?_⟩
                refine ⟨by kernel_rfl, ?_⟩
                rw [OnlyN_normal]
                replace K1 := Lib.hid (K1.out.call HC.out)
                replace K2 := Lib.hid (K2.out.call HC.out)
                replace KB := Lib.hid (KB.out.trans (HC.out.mono KB.out.size))
                clear e0 e1 l1 HC
                go_wp2_with fail
                go_roundw
                case rel => exact ⟨k + 1, _, _, _, _, by omega, by go_num, by rw [HY.out]; exact K1.out, K2.out, by rw [HY.out]; exact KV.out, KB.out⟩
                case measure => simp [intOf]; omega
        · have hq2 : (q == 1) = false := by simpa using hq1
          clear hq1
          go_wp2_with fail
          refine wp_region_ext_tail 10 (by kernel_rfl) (by kernel_rfl) ?_
          simp only [List.take_succ_cons, List.take_zero, List.drop_succ_cons, List.drop_zero]
          repeat (go_big_quiet_step (fail))
          refine wpQuiet_nil ?_
          rintro w' ⟨y, rfl⟩
          replace K1 := Lib.hid (K1.out.call y.below)
          replace K2 := Lib.hid (K2.out.call y.below)
          replace KV := Lib.hid (KV.out.call y.below)
          replace KB := Lib.hid (KB.out.trans (y.below.mono KB.out.size))
          generalize y.w = w3 at *
          clear y c0 c1 hbr
          clear wr
          have c0 := x0'
          have c1 := x1'
          have hbr := hb
          go_wp2_with fail
          with_reducible refine (qM.out G _ p q (ok_mod _) i0'.out i1'.out _ K1).mono ?_
          rintro e w4 ⟨rfl, h1, h2⟩
          rw [turn_add, ← HX1.out] at h1
          have KS := K1
          replace K1 := Lib.hid h1
          replace K2 : Hid (BigBlk w4 (G + 1) t (.slice B m d)) := (h2.block (G + 1) K2.out.lt (by intro h; have := Option.some.inj h; omega)).trans K2.out
          have KV4 : Hid (BigAt w4 (.agg #[.bool t, .slice B m d]) X) := KV.out.grown h2 KS.out
          clear KV
          replace KB := Lib.hid (below_of_grown KB.out h2 hwG KB.out.size)
          clear h1 h2 c0 c1 hbr KS
          have e0 := K2.out.c0
          have e1 := K2.out.c1
          have c0 := (KB.out.cell (p := ⟨b, o + k * 2, none⟩) hb).trans x0'.out
          have c1 := (KB.out.cell (p := ⟨b, o + k * 2 + 1, none⟩) hb).trans x1'.out
          have hbr : b < w4.heap.size := Nat.lt_of_lt_of_le hb KB.out.size
          have l1 := K2.out.lt
          have HC : Hid (Below w4.heap.size w4 w4.drew) := (Below.refl _ _).drew
          have fP := Lib.hid (fun w => Of_any p i0'.out w)
          have fQ := Lib.hid (fun w => Of_any q i1'.out w)
          have b1 : p.natAbs < 10000 ^ 40 := small40 (by have := i0'.out; unfold I64 at this; omega)
          have b2 : q.natAbs < 10000 ^ 40 := small40 (by have := i1'.out; unfold I64 at this; omega)
          have b3 : (p * q).natAbs < 10000 ^ 40 := small40 (by have := HB3.out.2.2; omega)
          have b4 : X.natAbs < 10000 ^ 40 := small40 (by have := HB3.out.2.1; omega)
          have b5 : Y.natAbs < 10000 ^ 40 := small40 (by have := HB3.out.1; omega)
          have fM := Lib.hid (fun x y w h1 h2 => BMul_any x y p q w h1 h2 b1 b2)
          have fA := Lib.hid (fun x y w h1 h2 => BAdd_any x y X (p * q) w h1 h2 b4 b3)
          rw [← HX1.out] at fA
          have B5 := Lib.hid b5
          clear b1 b2 b3 b4 b5
          go_wp2_with fail
          replace KV4 : Hid (BigAt w4.drew (.agg #[.bool t, .slice B m d]) X) := KV4.out
          refine wp_region_D [15] (fun wz => Hid (Below w4.heap.size w4 wz)) 16 #[false, false, false, false, false, false, false, false, false, false, false, false, false, false, false, false] (by kernel_rfl) (by kernel_rfl) (by kernel_rfl) ?_
          refine pure_moreD [0, 1, 2, 3, 4, 5, 7, 8, 9, 10, 11] 5 (L' := #[true, true, true, true, true, true, false, true, true, true, true, true, false, false, false, false]) (by kernel_rfl) (by kernel_rfl) HC ?_
          simp only [opsAt, List.getElem?_toArray, List.getElem?_cons_zero, List.getElem?_cons_succ]
          refine pure_atG (.agg #[.bool t, .slice B m d]) rfl (fun wz hC => by have h0 := ((Hid.out hC).cell (p := ⟨G + 1, 0, none⟩) l1).trans e0; have h1 := ((Hid.out hC).cell (p := ⟨G + 1, 1, none⟩) l1).trans e1; unfold execOp; go_simp) ?_
          refine pure_moveG rfl rfl ?_
          refine pure_moveG rfl rfl ?_
          refine pure_atG (.pointer (some ⟨b, o + k * 2, none⟩)) rfl (fun wz _ => by unfold execOp; go_simp) ?_
          refine pure_atG (.pointer (some ⟨b, o + k * 2, none⟩)) rfl (fun wz _ => by unfold execOp; go_simp) ?_
          refine pure_atG (.int .i64 p) rfl (fun wz hC => by have h0 := ((Hid.out hC).cell (p := ⟨b, o + k * 2, none⟩) hbr).trans c0; unfold execOp; go_simp) ?_
          refine pure_moveG rfl rfl ?_
          refine pure_moveG rfl rfl ?_
          refine pure_atG (.pointer (some ⟨b, o + k * 2, none⟩)) rfl (fun wz _ => by unfold execOp; go_simp) ?_
          refine pure_atG (.pointer (some ⟨b, o + k * 2 + 1, none⟩)) rfl (fun wz _ => by unfold execOp; go_simp) ?_
          refine pure_atG (.int .i64 q) rfl (fun wz hC => by have h0 := ((Hid.out hC).cell (p := ⟨b, o + k * 2 + 1, none⟩) hbr).trans c1; unfold execOp; go_simp) ?_
          unfold wpPure
          go_simp
          refine wpAnyD_one 6 (f := 4) (L' := #[true, true, true, true, true, true, true, true, true, true, true, true, false, false, false, false]) (by kernel_rfl) (by kernel_rfl) rfl rfl ?_
          go_wp2_with fail
          with_reducible refine (fP.out _).mono ?_
          rintro e w5 ⟨⟨v, rfl, hv⟩, hb⟩
          obtain ⟨ta, Aa, na, ca, rfl⟩ := hv.form
          have Va := Lib.hid hv
          clear hv
          replace HC : Hid (Below w4.heap.size w4 w5) := HC.out.trans (hb.mono HC.out.size)
          replace KV4 := Lib.hid (KV4.out.call hb)
          clear hb
          go_wp2_with fail
          rw [StepQ_normal]
          refine ⟨fun _ => HC, ?_⟩
          refine wpAnyD_one 12 (f := 3) (L' := #[true, true, true, true, true, true, true, true, true, true, true, true, true, false, false, false]) (by kernel_rfl) (by kernel_rfl) rfl rfl ?_
          go_wp2_with fail
          with_reducible refine (fQ.out _).mono ?_
          rintro e w6 ⟨⟨v, rfl, hv⟩, hb⟩
          obtain ⟨tb, Ab, nb, cb, rfl⟩ := hv.form
          have Vb := Lib.hid hv
          clear hv
          replace HC : Hid (Below w4.heap.size w4 w6) := HC.out.trans (hb.mono HC.out.size)
          replace KV4 := Lib.hid (KV4.out.call hb)
          replace Va := Lib.hid (Va.out.call hb)
          clear hb
          go_wp2_with fail
          rw [StepQ_normal]
          refine ⟨fun _ => HC, ?_⟩
          refine wpAnyD_one 13 (f := 2) (L' := #[true, true, true, true, true, true, true, true, true, true, true, true, true, true, false, false]) (by kernel_rfl) (by kernel_rfl) rfl rfl ?_
          go_wp2_with fail
          with_reducible refine (fM.out _ _ _ Va Vb).mono ?_
          rintro e w7 ⟨⟨v, rfl, hv⟩, hb⟩
          obtain ⟨tc, Ac, nc, cc, rfl⟩ := hv.form
          have Vc := Lib.hid hv
          clear hv
          replace HC : Hid (Below w4.heap.size w4 w7) := HC.out.trans (hb.mono HC.out.size)
          replace KV4 := Lib.hid (KV4.out.call hb)
          clear hb
          go_wp2_with fail
          rw [StepQ_normal]
          refine ⟨fun _ => HC, ?_⟩
          refine wpAnyD_one 14 (f := 1) (L' := #[true, true, true, true, true, true, true, true, true, true, true, true, true, true, true, false]) (by kernel_rfl) (by kernel_rfl) rfl rfl ?_
          go_wp2_with fail
          with_reducible refine (fA.out _ _ _ KV4 Vc).mono ?_
          rintro e w8 ⟨⟨v, rfl, hv⟩, hb⟩
          obtain ⟨td, Ad, nd, cd, rfl⟩ := hv.form
          have Vd := Lib.hid hv
          clear hv
          replace HC : Hid (Below w4.heap.size w4 w8) := HC.out.trans (hb.mono HC.out.size)
          clear hb
          go_wp2_with fail
          rw [StepQ_normal]
          refine ⟨fun _ => HC, ?_⟩
          clear Va Vb Vc KV4 fP fQ fM fA e0 e1 c0 c1 hbr l1
          replace K1 := Lib.hid (K1.out.call HC.out)
          replace K2 := Lib.hid (K2.out.call HC.out)
          replace KB := Lib.hid (KB.out.trans (HC.out.mono KB.out.size))
          clear HC
          have e0 := K2.out.c0
          have e1 := K2.out.c1
          have e2 := K2.out.z 0
          have e3 := K2.out.z 1
          refine wpAnyD_one 15 (f := 0) (L' := #[true, true, true, true, true, true, true, true, true, true, true, true, true, true, true, true]) (by kernel_rfl) (by kernel_rfl) rfl rfl ?_
          go_wp2_with fail
          rw [StepQ_normal]
          refine ⟨fun h => absurd h (by decide), ?_⟩
          refine ⟨by kernel_rfl, ?_⟩
          rw [OnlyN_normal]
          replace K1 : Hid (SumAt ((w8.setCell ⟨G + 1, 0, none⟩ (.bool td)).setCell ⟨G + 1, 1, none⟩ (.slice Ad nd cd)) G (Y % M3)) := set_oth (set_oth K1.out _ _ (by omega)) _ _ (by omega)
          have KV := Lib.hid (Vd.out.store K2.out)
          replace K2 := Lib.hid ((K2.out.set0 td).set1 (.slice Ad nd cd))
          replace KB := Lib.hid ((KB.out.setCell (p := ⟨G + 1, 0, none⟩) (by show w.heap.size ≤ G + 1; omega) (.bool td)).setCell (p := ⟨G + 1, 1, none⟩) (by show w.heap.size ≤ G + 1; omega) (.slice Ad nd cd))
          clear Vd e0 e1 e2 e3
          generalize (w8.setCell ⟨G + 1, 0, none⟩ (.bool td)).setCell ⟨G + 1, 1, none⟩ (.slice Ad nd cd) = w9 at *
          have qT := Lib.hid (Total_any G (Y % M3) (ok_mod _) w9 K1)
          rw [total_fits (x := Y) (by have := HB3.out.1; omega)] at qT
          go_wp2_with fail
          with_reducible refine qT.out.mono ?_
          rintro e wz ⟨rfl, rfl⟩
          have e0 := K2.out.c0
          have e1 := K2.out.c1
          have qs := Lib.hid (same_any _ Y (fitsP Y).1 (fitsP Y).2 wz KV B5.out rfl)
          go_wp2_with fail
          with_reducible refine qs.out.mono ?_
          rintro e w10 ⟨rfl, hb2⟩
          replace K1 := Lib.hid (K1.out.call hb2)
          replace K2 := Lib.hid (K2.out.call hb2)
          replace KV := Lib.hid (KV.out.call hb2)
          replace KB := Lib.hid (KB.out.trans (hb2.mono KB.out.size))
          clear hb2 qT qs e0 e1
          clear wz
          have qS := Lib.hid (Share_any G (Y % M3) rate (ok_mod _) w10 K1)
          go_wp2_with fail
          with_reducible refine qS.out.mono ?_
          rintro e w11 ⟨rfl, hb2⟩
          replace K1 := Lib.hid (K1.out.call hb2)
          replace K2 := Lib.hid (K2.out.call hb2)
          replace KV := Lib.hid (KV.out.call hb2)
          replace KB := Lib.hid (KB.out.trans (hb2.mono KB.out.size))
          clear hb2 qS
          clear w10
          have htd := KV.out.neg
          have e0 := K2.out.c0
          have e1 := K2.out.c1
          have hbY := HB3.out.1
          by_cases hYn : Y < 0
          · have hso : share (Y % M3) rate = (0, false) := share_off (by unfold M3; omega)
            rw [decide_eq_true hYn] at htd
            subst htd
            rw [hso]
            clear hYn hbY hso
            go_wp2_with fail
            go_roundw
            case rel => exact ⟨k + 1, _, _, _, _, by omega, by go_num, by rw [HY.out]; exact K1.out, K2.out, by rw [HY.out]; exact KV.out, KB.out⟩
            case measure => simp [intOf]; omega
          · rw [decide_eq_false hYn] at htd
            subst htd
            by_cases hr0 : rate < 0
            · have hso : share (Y % M3) rate = (0, false) := share_off (by omega)
              have hd0 : decide (rate < 0) = true := decide_eq_true hr0
              rw [hso]
              clear hYn hbY hso hr0
              go_wp2_with fail
              go_roundw
              case rel => exact ⟨k + 1, _, _, _, _, by omega, by go_num, by rw [HY.out]; exact K1.out, K2.out, by rw [HY.out]; exact KV.out, KB.out⟩
              case measure => simp [intOf]; omega
            · by_cases hr1 : 1000 < rate
              · have hso : share (Y % M3) rate = (0, false) := share_off (by omega)
                have hd0 : decide (rate < 0) = false := decide_eq_false hr0
                have hd1 : decide (1000 < rate) = true := decide_eq_true hr1
                rw [hso]
                clear hYn hbY hso hr0 hr1
                go_wp2_with fail
                go_roundw
                case rel => exact ⟨k + 1, _, _, _, _, by omega, by go_num, by rw [HY.out]; exact K1.out, K2.out, by rw [HY.out]; exact KV.out, KB.out⟩
                case measure => simp [intOf]; omega
              · have hk60 : k + 1 ≤ 61 := by clear hbY; omega
                have hbY2 : Y.natAbs ≤ 61 * 85070591730234615865843651857942052864 := Nat.le_trans hbY (Nat.mul_le_mul_right _ hk60)
                have hY0 : 0 ≤ Y := Int.not_lt.1 hYn
                have hso : share (Y % M3) rate = fitsP (up100 (Y * rate)) := share_fits hY0 hbY2 (Int.not_lt.1 hr0) (Int.not_lt.1 hr1)
                have hd0 : decide (rate < 0) = false := decide_eq_false hr0
                have hd1 : decide (1000 < rate) = false := decide_eq_false hr1
                rw [hso]
                have hyr0 : 0 ≤ Y * rate := Int.mul_nonneg (by omega) (by omega)
                have hyr1 : Y * rate ≤ 5189306095544311567816471763335375224704 * 1000 := Int.mul_le_mul (by omega) (by omega) (by omega) (by decide)
                have hyr2 : (Y * rate).natAbs < 10000 ^ 39 := by
                  have h1 : (10000 : Nat) ^ 39 = 10000 ^ 19 * 10000 ^ 20 := by rw [← Nat.pow_add]
                  have h2 : (10000 : Nat) ^ 19 = 10000000000000000000000000000000000000000000000000000000000000000000000000000 := by decide
                  have h3 : 1 ≤ (10000 : Nat) ^ 20 := Nat.pow_pos (by decide)
                  have h4 : (10000 : Nat) ^ 19 * 1 ≤ 10000 ^ 19 * 10000 ^ 20 := Nat.mul_le_mul_left _ h3
                  rw [h1]; omega
                have hup : (up100 (Y * rate)).natAbs < 10000 ^ 40 := small40 (by unfold up100; omega)
                have fR := Lib.hid (fun w => Of_any rate hr.out w)
                have br : rate.natAbs < 10000 ^ 40 := small40 (by omega)
                have fM := Lib.hid (fun x y w h1 h2 => BMul_any x y Y rate w h1 h2 B5.out br)
                have fU := Lib.hid (fun x w h1 => UpBy_any x (Y * rate) w h1 hyr2 hyr0)
                have fS := Lib.hid (fun x w h1 => same_any x (up100 (Y * rate)) (fitsP (up100 (Y * rate))).1 (fitsP (up100 (Y * rate))).2 w h1 hup rfl)
                generalize fitsP (up100 (Y * rate)) = FF at *
                clear hYn hbY hbY2 hY0 hk60 hso hr0 hr1 hyr0 hyr1 hyr2 hup br
                have l1 := K2.out.lt
                have HC : Hid (Below w11.heap.size w11 w11.drew) := (Below.refl _ _).drew
                go_wp2_with fail
                replace KV : Hid (BigAt w11.drew (.agg #[.bool false, .slice Ad nd cd]) Y) := KV.out
                refine wp_region_D [] (fun wz => Hid (Below w11.heap.size w11 wz)) 9 #[false, false, false, false, false, false, false, false, false] (by kernel_rfl) (by kernel_rfl) (by kernel_rfl) ?_
                refine pure_moreD [0, 1, 2, 3] 5 (L' := #[true, true, true, true, false, false, false, false, false]) (by kernel_rfl) (by kernel_rfl) HC ?_
                simp only [opsAt, List.getElem?_toArray, List.getElem?_cons_zero, List.getElem?_cons_succ]
                refine pure_moveG rfl rfl ?_
                refine pure_moveG rfl rfl ?_
                refine pure_atG (.agg #[.bool false, .slice Ad nd cd]) rfl (fun wz hC => by have h0 := ((Hid.out hC).cell (p := ⟨G + 1, 0, none⟩) l1).trans e0; have h1 := ((Hid.out hC).cell (p := ⟨G + 1, 1, none⟩) l1).trans e1; unfold execOp; go_simp) ?_
                refine pure_moveG rfl rfl ?_
                unfold wpPure
                go_simp
                refine wpAnyD_one 4 (f := 4) (L' := #[true, true, true, true, true, false, false, false, false]) (by kernel_rfl) (by kernel_rfl) rfl rfl ?_
                go_wp2_with fail
                with_reducible refine (fR.out _).mono ?_
                rintro e w12 ⟨⟨v, rfl, hv⟩, hb⟩
                obtain ⟨te, Ae, ne, ce, rfl⟩ := hv.form
                have Ve := Lib.hid hv
                clear hv
                replace HC : Hid (Below w11.heap.size w11 w12) := HC.out.trans (hb.mono HC.out.size)
                replace KV := Lib.hid (KV.out.call hb)
                clear hb
                go_wp2_with fail
                rw [StepQ_normal]
                refine ⟨fun _ => HC, ?_⟩
                refine wpAnyD_one 5 (f := 3) (L' := #[true, true, true, true, true, true, false, false, false]) (by kernel_rfl) (by kernel_rfl) rfl rfl ?_
                go_wp2_with fail
                with_reducible refine (fM.out _ _ _ KV Ve).mono ?_
                rintro e w13 ⟨⟨v, rfl, hv⟩, hb⟩
                obtain ⟨tf, Af, nf, cf, rfl⟩ := hv.form
                have Vf := Lib.hid hv
                clear hv
                replace HC : Hid (Below w11.heap.size w11 w13) := HC.out.trans (hb.mono HC.out.size)
                replace KV := Lib.hid (KV.out.call hb)
                clear hb
                go_wp2_with fail
                rw [StepQ_normal]
                refine ⟨fun _ => HC, ?_⟩
                refine wpAnyD_one 6 (f := 2) (L' := #[true, true, true, true, true, true, true, false, false]) (by kernel_rfl) (by kernel_rfl) rfl rfl ?_
                go_wp2_with fail
                with_reducible refine (fU.out _ _ Vf).mono ?_
                rintro e w14 ⟨⟨v, rfl, hv⟩, hb⟩
                obtain ⟨tg, Ag, ng, cg, rfl⟩ := hv.form
                have Vg := Lib.hid hv
                clear hv
                replace HC : Hid (Below w11.heap.size w11 w14) := HC.out.trans (hb.mono HC.out.size)
                replace KV := Lib.hid (KV.out.call hb)
                clear hb
                go_wp2_with fail
                rw [StepQ_normal]
                refine ⟨fun _ => HC, ?_⟩
                refine wpAnyD_one 7 (f := 1) (L' := #[true, true, true, true, true, true, true, true, false]) (by kernel_rfl) (by kernel_rfl) rfl rfl ?_
                go_wp2_with fail
                with_reducible refine (fS.out _ _ Vg).mono ?_
                rintro e w15 ⟨rfl, hb⟩
                replace HC : Hid (Below w11.heap.size w11 w15) := HC.out.trans (hb.mono HC.out.size)
                replace KV := Lib.hid (KV.out.call hb)
                clear hb
                go_wp2_with fail
                rw [StepQ_normal]
                refine ⟨fun _ => HC, ?_⟩
                refine wpAnyD_one 8 (f := 0) (L' := #[true, true, true, true, true, true, true, true, true]) (by kernel_rfl) (by kernel_rfl) rfl rfl ?_
                go_wp2_with fail
                rw [StepQ_normal]
                refine ⟨fun _ => HC, ?_⟩
                refine ⟨by kernel_rfl, ?_⟩
                rw [OnlyN_normal]
                replace K1 := Lib.hid (K1.out.call HC.out)
                replace K2 := Lib.hid (K2.out.call HC.out)
                replace KB := Lib.hid (KB.out.trans (HC.out.mono KB.out.size))
                clear e0 e1 l1 HC
                go_wp2_with fail
                go_roundw
                case rel => exact ⟨k + 1, _, _, _, _, by omega, by go_num, by rw [HY.out]; exact K1.out, K2.out, by rw [HY.out]; exact KV.out, KB.out⟩
                case measure => simp [intOf]; omega
end Go.Proofs.Yteeemoknbnlopaa
