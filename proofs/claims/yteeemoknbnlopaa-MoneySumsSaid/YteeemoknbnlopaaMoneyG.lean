/- money: Mul; the document's example. -/
import Derived.Test.YteeemoknbnlopaaMoneyF
namespace Go.Proofs.Yteeemoknbnlopaa
open Go Go.RowKit Mon

theorem ok_zero : Ok 0 := by unfold Ok M3; omega
theorem sumA_zero : sumA 0 = #[.int .u64 0, .int .u64 0, .int .u64 0] := by kernel_rfl
theorem sum_new (w : World) : SumAt (w.alloc (.cells #[.int .u64 0, .int .u64 0, .int .u64 0] 27)) w.heap.size 0 := by
  unfold SumAt; rw [sumA_zero]; exact heap_new _ _
theorem SumAt.oth {w w' : World} {g h : Nat} {V : Int} (hs : SumAt w g V) (hg : w.grownBy w' (some h)) (hne : g ≠ h) : SumAt w' g V :=
  (hg.block g (Array.getElem?_eq_some_iff.1 hs).1 (fun e => hne (Option.some.inj e))).trans hs
theorem SumAt.call {w w' : World} {g : Nat} {V : Int} (hs : SumAt w g V) (hg : Below w.heap.size w w') : SumAt w' g V := blk_call hs hg
theorem SumAt.alloc {w : World} {g : Nat} {V : Int} (hs : SumAt w g V) (o : Obj) : SumAt (w.alloc o) g V := blk_old hs o
theorem below_of_grown {B g : Nat} {a w w' : World} (h : Below B a w) (hg : w.grownBy w' (some g)) (hB : B ≤ g) (hsz : B ≤ w.heap.size) : Below B a w' :=
  ⟨hg.os.trans h.os, hg.tape.trans h.tape, hg.output.trans h.output, Nat.le_trans h.size hg.size, fun k hk => (hg.block k (Nat.lt_of_lt_of_le hk hsz) (fun e => by have := Option.some.inj e; omega)).trans (h.block k hk)⟩

theorem Share_any (g : Nat) (V r : Int) (hV : Ok V) (w : World) (hS : Hid (SumAt w g V)) :
    Calls Try.prog 18 #[.pointer (some ⟨g, 0, none⟩), .int .i64 r] w fun e w' => e = .returned (.tuple #[.int .i64 (share V r).1, .bool (share V r).2]) ∧ Below w.heap.size w w' := by
  by_cases h : V < 3138550867693340381917894711603833208051177722232017256448 ∧ 0 ≤ r ∧ r ≤ 1000
  · exact Share_on g V r hV w hS h.1 h.2.1 h.2.2
  · refine (Share_off g V r hV w hS h).mono ?_
    rintro e w' ⟨rfl, rfl⟩
    have e1 : share V r = (0, false) := by unfold share; rw [if_neg h]
    rw [e1]
    exact ⟨rfl, Below.refl _ _⟩

theorem Mul_any (a b : Int) (ha : I64 a) (hb : I64 b) (w : World) :
    Calls Try.prog 22 #[.int .i64 a, .int .i64 b] w fun r w' =>
      r = .returned (.tuple #[.int .i64 (total ((a * b) % M3)).1, .bool (total ((a * b) % M3)).2]) ∧ Below w.heap.size w w' := by
  have q1 := Lib.hid (AddMul_any w.heap.size 0 a b ok_zero ha hb (w.alloc (.cells #[.int .u64 0, .int .u64 0, .int .u64 0] 27)) (sum_new w))
  rw [Int.zero_add] at q1
  have q2 := Lib.hid (fun w' h => Total_any w.heap.size ((a * b) % M3) (ok_mod _) w' h)
  go_enter Try.func22, Try.ntmps22
  go_wp2_with fail
  with_reducible refine q1.out.mono ?_
  rintro e w1 ⟨rfl, h1, h2⟩
  have H1 := Lib.hid h1
  have H2 := Lib.hid h2
  clear h1 h2
  go_wp2_with (go_at_call 16; with_reducible refine (q2.out _ H1).mono ?_; rintro e w9 ⟨rfl, rfl⟩)
  go_ret2
  exact ⟨rfl, below_of_grown (below_alloc (Below.refl _ _) (Nat.le_refl _) _) H2.out (Nat.le_refl _) (by rw [World.size_alloc]; omega)⟩

set_option maxRecDepth 100000 in
set_option maxHeartbeats 1000000 in
theorem alive05 (w : World) : Calls Try.prog 10 #[] w fun e w' => e = .returned (.bool true) ∧ Below w.heap.size w w' := by
  have q0 := Lib.hid (fun w => Mul_any 4611686018427387904 2 (by unfold I64; omega) (by unfold I64; omega) w)
  rw [show total ((4611686018427387904 * 2) % M3) = (0, false) by decide +kernel] at q0
  have q1 := Lib.hid (fun g w h => AddMul_any g 0 4611686018427387904 4 ok_zero (by unfold I64; omega) (by unfold I64; omega) w h)
  rw [show ((0 : Int) + 4611686018427387904 * 4) % M3 = 18446744073709551616 by decide +kernel] at q1
  have q2 := Lib.hid (fun g w h => AddMul_any g 18446744073709551616 (-4611686018427387904) 4 (by unfold Ok M3; omega) (by unfold I64; omega) (by unfold I64; omega) w h)
  rw [show ((18446744073709551616 : Int) + (-4611686018427387904) * 4) % M3 = 0 by decide +kernel] at q2
  have q3 := Lib.hid (fun g w h => Total_any g 0 ok_zero w h)
  rw [show total 0 = (0, true) by decide +kernel] at q3
  have q4 := Lib.hid (fun g w h => Add_any g 0 101 ok_zero (by unfold I64; omega) w h)
  rw [show ((0 : Int) + 101) % M3 = 101 by decide +kernel] at q4
  have q5 := Lib.hid (fun g w h => Share_on g 101 50 (by unfold Ok M3; omega) w h (by omega) (by omega) (by omega))
  rw [show share 101 50 = (51, true) by decide +kernel] at q5
  go_enter Try.func10, Try.ntmps10
  go_wp2_with fail
  refine (q0.out _).mono ?_
  rintro e w1 ⟨rfl, hb⟩
  have HB := Lib.hid hb
  clear hb
  go_wp2_with fail
  obtain ⟨G, hG⟩ : ∃ G, w1.heap.size = G := ⟨_, rfl⟩
  have hS0 := sum_new w1
  have HB0 := Lib.hid (below_alloc HB.out HB.out.size (.cells #[.int .u64 0, .int .u64 0, .int .u64 0] 27))
  have hGw : w.heap.size ≤ G := by rw [← hG]; exact HB.out.size
  rw [hG] at hS0 ⊢
  have HS0 := Lib.hid hS0
  have HGw := Lib.hid hGw
  clear hS0 hGw
  with_reducible refine (q1.out G _ HS0).mono ?_
  rintro e w2 ⟨rfl, h1, h2⟩
  have HS1 := Lib.hid h1
  have HB1 := Lib.hid (below_of_grown HB0.out h2 HGw.out HB0.out.size)
  clear h1 h2 HS0 HB0 hG HB
  go_wp2_with fail
  with_reducible refine (q2.out G _ HS1).mono ?_
  rintro e w3 ⟨rfl, h1, h2⟩
  have HS2 := Lib.hid h1
  have HB2 := Lib.hid (below_of_grown HB1.out h2 HGw.out HB1.out.size)
  clear h1 h2 HS1 HB1
  go_wp2_with fail
  with_reducible refine (q3.out G _ HS2).mono ?_
  rintro e w4 ⟨rfl, rfl⟩
  go_wp2_with fail
  with_reducible refine (q4.out G _ HS2).mono ?_
  rintro e w5 ⟨rfl, h1, h2⟩
  have HS3 := Lib.hid h1
  have HB3 := Lib.hid (below_of_grown HB2.out h2 HGw.out HB2.out.size)
  clear h1 h2 HS2 HB2
  go_wp2_with fail
  with_reducible refine (q5.out G _ HS3).mono ?_
  rintro e w6 ⟨rfl, h1⟩
  have HB4 := Lib.hid (HB3.out.trans (h1.mono HB3.out.size))
  clear h1
  go_wp2_with fail
  go_ret
  exact ⟨rfl, HB4.out⟩
end Go.Proofs.Yteeemoknbnlopaa
