/- The walk of MoneyOrder. -/
import Derived.Test.YteeemoknbnlopaaMoneyG
namespace Go.Proofs.Yteeemoknbnlopaa
open Go Go.RowKit Mon

/-- A slice of pairs of numbers. -/
def TwosAt (w : World) (A : Option Addr) (n : Nat) (f : Nat → Int × Int) : Prop :=
  ∀ i, i < n → ∃ b o, A = some ⟨b, o, none⟩ ∧ b < w.heap.size ∧ w.cell? ⟨b, o + i * 2, none⟩ = some (.int .i64 (f i).1) ∧ w.cell? ⟨b, o + i * 2 + 1, none⟩ = some (.int .i64 (f i).2) ∧ I64 (f i).1 ∧ I64 (f i).2

set_option maxRecDepth 100000 in
set_option maxHeartbeats 2000000 in
theorem MoneyOrder_walk (A : Option Addr) (n c : Nat) (f : Nat → Int × Int) (by_ rate : Nat) (w : World) (hA : Hid (TwosAt w A n f)) (hb : by_ < 256) (hr : rate < 65536) (hn : n ≤ 9223372036854775807) :
    Calls Try.prog 4 #[.slice A n c, .int .u8 by_, .int .u16 rate] w fun e w' => e = .returned (.bool true) ∧ Below w.heap.size w w' := by
  have a0 := Lib.hid (alive05 w)
  have qM := Lib.hid (fun g V a b h1 h2 h3 w h4 => AddMul_any g V a b h1 h2 h3 w h4)
  go_enter Try.func4, Try.ntmps4
  go_wp2_with fail
  with_reducible refine a0.out.mono ?_
  rintro e w1 ⟨rfl, hb1⟩
  have HB1 := Lib.hid hb1
  clear hb1
  by_cases hn6 : 60 < n
  · have e1 : decide (60 < (n : Int)) = true := by simp; omega
    go_wp2_with fail
    go_ret
    exact ⟨rfl, HB1.out⟩
  · have e1 : decide (60 < (n : Int)) = false := by simp; omega
    go_wp2_with fail
    obtain ⟨G, hG⟩ : ∃ G, w1.heap.size = G := ⟨_, rfl⟩
    have hS0 : SumAt ((w1.alloc (.cells #[.int .u64 0, .int .u64 0, .int .u64 0] 27)).alloc (.cells #[.int .u64 0, .int .u64 0, .int .u64 0] 27)) G 0 := by rw [← hG]; exact (sum_new w1).alloc _
    have hT0 := sum_new (w1.alloc (.cells #[.int .u64 0, .int .u64 0, .int .u64 0] 27))
    rw [World.size_alloc] at hT0
    have hX0 := below_alloc (below_alloc (Below.refl w1.heap.size w1) (Nat.le_refl _) (.cells #[.int .u64 0, .int .u64 0, .int .u64 0] 27)) (by rw [World.size_alloc]; omega) (.cells #[.int .u64 0, .int .u64 0, .int .u64 0] 27)
    rw [hG] at hT0 hX0 ⊢
    generalize (w1.alloc (.cells #[.int .u64 0, .int .u64 0, .int .u64 0] 27)).alloc (.cells #[.int .u64 0, .int .u64 0, .int .u64 0] 27) = w2 at *
    have hwG : w.heap.size ≤ G := by rw [← hG]; exact HB1.out.size
    have HX : Hid (Below w.heap.size w w2) := HB1.out.trans (hX0.mono hwG)
    have HS0 := Lib.hid hS0; have HT0 := Lib.hid hT0
    have HG := Lib.hid hG
    clear hS0 hT0 hX0 hG
    go_loopw [9, 10] (fun s9 s10 wr => ∃ k : Nat, k ≤ n ∧ s9 = .int .i64 k ∧ Hid (SumAt wr G (sumTo (fun i => (f i).1 * (f i).2) k % M3)) ∧
      Hid (SumAt wr (G + 1) (sumTo (fun j => (f ((j + by_) % n)).2 * (f ((j + by_) % n)).1) k % M3)) ∧ Hid (Below w.heap.size w wr)) (fun s9 _ _ => n - (intOf s9).toNat)
    case atStart => exact ⟨0, Nat.zero_le _, rfl, HS0.out, HT0.out, HX.out⟩
    case round =>
      obtain ⟨k, hk, rfl, HS, HT, HW⟩ := hrel
      by_cases hkn : k = n
      · have hV : sumTo (fun j => (f ((j + by_) % n)).2 * (f ((j + by_) % n)).1) k = sumTo (fun i => (f i).1 * (f i).2) k := by
          rw [hkn, sumTo_turn (fun j => (f j).2 * (f j).1) n by_]
          exact sumTo_congr n (fun i _ => Int.mul_comm _ _)
        rw [hV] at HT
        have hv0 := ok_mod (sumTo (fun i => (f i).1 * (f i).2) k)
        have hkn' : ¬ ((k : Int) < n) := by omega
        generalize sumTo (fun i => (f i).1 * (f i).2) k % M3 = V at *
        have q3 := Lib.hid (fun g w h => Total_any g V hv0 w h)
        have q5 := Lib.hid (fun g w h => Share_any g V ((rate : Int) % 1001) hv0 w h)
        generalize total V = T at *
        generalize share V ((rate : Int) % 1001) = S at *
        clear hV hkn hk qM hA hv0
        go_wp2_with fail
        with_reducible refine (q3.out _ _ HS).mono ?_
        rintro e w4 ⟨rfl, rfl⟩
        go_wp2_with fail
        with_reducible refine (q3.out _ _ HT).mono ?_
        rintro e w5 ⟨rfl, rfl⟩
        go_wp2_with fail
        with_reducible refine (q5.out _ _ HS).mono ?_
        rintro e w6 ⟨rfl, h1⟩
        have HT2 := Lib.hid (HT.out.call h1)
        have HW2 := Lib.hid (HW.out.trans (h1.mono HW.out.size))
        clear h1 HS HT HW
        go_wp2_with fail
        with_reducible refine (q5.out _ _ HT2).mono ?_
        rintro e w7 ⟨rfl, h1⟩
        have HW3 := Lib.hid (HW2.out.trans (h1.mono HW2.out.size))
        clear h1
        have u1 : (T.2 == T.2) = true := by simp
        have u2 : (S.2 == S.2) = true := by simp
        go_wp2_with fail
        go_ret
        exact ⟨rfl, HW3.out⟩
      · have hlt : k < n := by omega
        have hlt' : (k : Int) < n := by omega
        have hm : (k + by_) % n < n := Nat.mod_lt _ (by omega)
        obtain ⟨b, o, rfl, hb, x0, x1, i0, i1⟩ := hA.out k hlt
        obtain ⟨b', o', hb', hb2, y0, y1, j0, j1⟩ := hA.out _ hm
        simp only [Option.some.injEq, Addr.mk.injEq, and_true] at hb'
        obtain ⟨rfl, rfl⟩ := hb'
        have c0 := (HW.out.cell (p := ⟨b, o + k * 2, none⟩) hb).trans x0
        have c1 := (HW.out.cell (p := ⟨b, o + k * 2 + 1, none⟩) hb).trans x1
        have hbr : b < wr.heap.size := Nat.lt_of_lt_of_le hb HW.out.size
        go_wp2_with fail
        refine wp_region_ext_tail 10 (by kernel_rfl) (by kernel_rfl) ?_
        simp only [List.take_succ_cons, List.take_zero, List.drop_succ_cons, List.drop_zero]
        repeat (go_big_quiet_step (fail))
        refine wpQuiet_nil ?_
        rintro w' ⟨y, rfl⟩
        have hs1 := HS.out.call y.below
        have ht1 := HT.out.call y.below
        have hw1 := HW.out.trans (y.below.mono HW.out.size)
        generalize y.w = w3 at *
        clear y HS HT HW c0 c1 hbr
        have HS := Lib.hid hs1; have HT := Lib.hid ht1; have HW := Lib.hid hw1
        clear hs1 ht1 hw1
        go_wp2_with fail
        with_reducible refine (qM.out G _ (f k).1 (f k).2 (ok_mod _) i0 i1 _ HS).mono ?_
        rintro e w4 ⟨rfl, h1, h2⟩
        rw [turn_add] at h1
        have HS1 := Lib.hid (show SumAt w4 G (sumTo (fun i => (f i).1 * (f i).2) (k + 1) % M3) from h1)
        have HT1 := Lib.hid (HT.out.oth h2 (by omega))
        have HW1 := Lib.hid (below_of_grown HW.out h2 hwG HW.out.size)
        clear h1 h2 HS HT HW
        have hrem : ((k : Int) + (by_ : Int)).tmod (n : Int) = (((k + by_) % n : Nat) : Int) := by
          rw [Int.tmod_eq_emod_of_nonneg (by omega)]; simp
        have hn0 : ((n : Int) == 0) = false := by simp; omega
        have c0 := (HW1.out.cell (p := ⟨b, o + (k + by_) % n * 2, none⟩) hb).trans y0
        have c1 := (HW1.out.cell (p := ⟨b, o + (k + by_) % n * 2 + 1, none⟩) hb).trans y1
        have hbr : b < w4.heap.size := Nat.lt_of_lt_of_le hb HW1.out.size
        obtain ⟨r, hr2⟩ : ∃ r, (k + by_) % n = r := ⟨_, rfl⟩
        have hQ : (fun j => (f ((j + by_) % n)).2 * (f ((j + by_) % n)).1) k = (f r).2 * (f r).1 := by show (f ((k + by_) % n)).2 * _ = _; rw [hr2]
        rw [hr2] at hrem c0 c1 j0 j1 hm
        have HQ := Lib.hid hQ
        clear hQ hr2 y0 y1 x0 x1
        have hm2 : (r : Int) < n := by omega
        go_wp2_with fail
        refine wp_region_ext_tail 10 (by kernel_rfl) (by kernel_rfl) ?_
        simp only [List.take_succ_cons, List.take_zero, List.drop_succ_cons, List.drop_zero]
        repeat (go_big_quiet_step (fail))
        refine wpQuiet_nil ?_
        rintro w' ⟨y, rfl⟩
        have hs1 := HS1.out.call y.below
        have ht1 := HT1.out.call y.below
        have hw1 := HW1.out.trans (y.below.mono HW1.out.size)
        generalize y.w = w5 at *
        clear y HS1 HT1 HW1 c0 c1 hbr hrem hn0
        have HS := Lib.hid hs1; have HT := Lib.hid ht1; have HW := Lib.hid hw1
        clear hs1 ht1 hw1
        go_wp2_with fail
        with_reducible refine (qM.out (G + 1) _ (f r).2 (f r).1 (ok_mod _) j1 j0 _ HT).mono ?_
        rintro e w6 ⟨rfl, h1, h2⟩
        rw [turn_add, ← HQ.out] at h1
        have HT1 := Lib.hid (show SumAt w6 (G + 1) (sumTo (fun j => (f ((j + by_) % n)).2 * (f ((j + by_) % n)).1) (k + 1) % M3) from h1)
        have HS1 := Lib.hid (HS.out.oth h2 (by omega))
        have HW1 := Lib.hid (below_of_grown HW.out h2 (by omega) HW.out.size)
        clear h1 h2 HS HT HW HQ
        go_wp2_with fail
        go_roundw
        case rel => exact ⟨k + 1, by omega, by go_num, HS1.out, HT1.out, HW1.out⟩
        case measure => simp [intOf]; omega
end Go.Proofs.Yteeemoknbnlopaa
