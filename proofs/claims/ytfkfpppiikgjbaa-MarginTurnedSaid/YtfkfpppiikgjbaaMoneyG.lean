/- money: Mul; the document's example. -/
import Derived.Test.YtfkfpppiikgjbaaMoneyF
namespace Go.Proofs.Ytfkfpppiikgjbaa
open Go Go.RowKit Mon

theorem ok_zero : Ok 0 := by unfold Ok M3; omega
theorem sumA_zero : sumA 0 = #[.int .u64 0, .int .u64 0, .int .u64 0] := by kernel_rfl
theorem sum_new (w : World) : SumAt (w.alloc (.cells #[.int .u64 0, .int .u64 0, .int .u64 0] 105)) w.heap.size 0 := by
  unfold SumAt; rw [sumA_zero]; exact heap_new _ _
theorem SumAt.oth {w w' : World} {g h : Nat} {V : Int} (hs : SumAt w g V) (hg : w.grownBy w' (some h)) (hne : g ≠ h) : SumAt w' g V :=
  (hg.block g (Array.getElem?_eq_some_iff.1 hs).1 (fun e => hne (Option.some.inj e))).trans hs
theorem SumAt.call {w w' : World} {g : Nat} {V : Int} (hs : SumAt w g V) (hg : Below w.heap.size w w') : SumAt w' g V := blk_call hs hg
theorem SumAt.alloc {w : World} {g : Nat} {V : Int} (hs : SumAt w g V) (o : Obj) : SumAt (w.alloc o) g V := blk_old hs o
theorem below_of_grown {B g : Nat} {a w w' : World} (h : Below B a w) (hg : w.grownBy w' (some g)) (hB : B ≤ g) (hsz : B ≤ w.heap.size) : Below B a w' :=
  ⟨hg.os.trans h.os, hg.tape.trans h.tape, hg.output.trans h.output, Nat.le_trans h.size hg.size, fun k hk => (hg.block k (Nat.lt_of_lt_of_le hk hsz) (fun e => by have := Option.some.inj e; omega)).trans (h.block k hk)⟩

theorem Share_any (g : Nat) (V r : Int) (hV : Ok V) (w : World) (hS : Hid (SumAt w g V)) :
    Calls Try.prog 80 #[.pointer (some ⟨g, 0, none⟩), .int .i64 r] w fun e w' => e = .returned (.tuple #[.int .i64 (share V r).1, .bool (share V r).2]) ∧ Below w.heap.size w w' := by
  by_cases h : V < 3138550867693340381917894711603833208051177722232017256448 ∧ 0 ≤ r ∧ r ≤ 1000
  · exact Share_on g V r hV w hS h.1 h.2.1 h.2.2
  · refine (Share_off g V r hV w hS h).mono ?_
    rintro e w' ⟨rfl, rfl⟩
    have e1 : share V r = (0, false) := by unfold share; rw [if_neg h]
    rw [e1]
    exact ⟨rfl, Below.refl _ _⟩

end Go.Proofs.Ytfkfpppiikgjbaa
