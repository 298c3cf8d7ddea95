/- The law's own check: a digest that is known. -/
import Derived.Test.YtgjehokkmdbknaaDoorShaN
import Derived.Test.YtgjehokkmdbknaaDoorShaF
namespace Go.Proofs.YtgjehokkmdbknaaDoor
open Go Go.RowKit

theorem abc_cut : cutS (nth kList) hSt abcS 2 = ⟨#[186, 120]⟩ := by
  unfold cutS
  rw [if_neg (by decide), abc_sum]
  decide +kernel
theorem abc_hex : strOfNums (hexL (⟨#[186, 120, 22, 191, 143, 1, 207, 234, 65, 65, 64, 222, 93, 174, 34, 35, 176, 3, 97, 163, 150, 23, 122, 156, 180, 16, 255, 97, 242, 0, 21, 173]⟩ : ByteArray).data.toList) = ⟨#[98, 97, 55, 56, 49, 54, 98, 102, 56, 102, 48, 49, 99, 102, 101, 97, 52, 49, 52, 49, 52, 48, 100, 101, 53, 100, 97, 101, 50, 50, 50, 51, 98, 48, 48, 51, 54, 49, 97, 51, 57, 54, 49, 55, 55, 97, 57, 99, 98, 52, 49, 48, 102, 102, 54, 49, 102, 50, 48, 48, 49, 53, 97, 100]⟩ := by decide +kernel

set_option maxRecDepth 100000 in
set_option maxHeartbeats 1000000 in
theorem alive_any (w : World) (hT : Hid (ShaT w (nth kList) hSt)) :
    Calls Tryd.prog 15 #[] w fun e w' => e = .returned (.bool true) ∧ Below w.heap.size w w' := by
  have q1 : Hid (Calls Tryd.prog 17 #[.string ⟨#[97, 98, 99]⟩, .int .i64 2] w fun e w' => e = .returned (.tuple #[.string ⟨#[186, 120]⟩, .int .i64 0]) ∧ Below w.heap.size w w') := by
    have := Cut_any (nth kList) hSt abcS 2 w hT (by show _ ≤ _; decide) (by show _ ∧ _; decide)
    rw [abc_cut] at this
    exact this
  have q2 : Hid (∀ w, Hid (ShaT w (nth kList) hSt) → Calls Tryd.prog 18 #[.string ⟨#[97, 98, 99]⟩] w fun e w' => e = .returned (.string ⟨#[186, 120, 22, 191, 143, 1, 207, 234, 65, 65, 64, 222, 93, 174, 34, 35, 176, 3, 97, 163, 150, 23, 122, 156, 180, 16, 255, 97, 242, 0, 21, 173]⟩) ∧ Below w.heap.size w w') := fun w hT => by
    have := Sum_any (nth kList) hSt abcS w hT (by show _ ≤ _; decide)
    rw [abc_sum] at this
    exact this
  have q3 : Hid (∀ w, Calls Tryd.prog 19 #[.string ⟨#[186, 120, 22, 191, 143, 1, 207, 234, 65, 65, 64, 222, 93, 174, 34, 35, 176, 3, 97, 163, 150, 23, 122, 156, 180, 16, 255, 97, 242, 0, 21, 173]⟩] w fun e w' => e = .returned (.string ⟨#[98, 97, 55, 56, 49, 54, 98, 102, 56, 102, 48, 49, 99, 102, 101, 97, 52, 49, 52, 49, 52, 48, 100, 101, 53, 100, 97, 101, 50, 50, 50, 51, 98, 48, 48, 51, 54, 49, 97, 51, 57, 54, 49, 55, 55, 97, 57, 99, 98, 52, 49, 48, 102, 102, 54, 49, 102, 50, 48, 48, 49, 53, 97, 100]⟩) ∧ Below w.heap.size w w') := fun w => by
    have := Hex_any ⟨#[186, 120, 22, 191, 143, 1, 207, 234, 65, 65, 64, 222, 93, 174, 34, 35, 176, 3, 97, 163, 150, 23, 122, 156, 180, 16, 255, 97, 242, 0, 21, 173]⟩ w (by show _ ≤ _; decide)
    rw [abc_hex] at this
    exact this
  generalize nth kList = K at *
  generalize hSt = H at *
  go_enter Tryd.func15, Tryd.ntmps15
  go_wp2_with fail
  refine q1.out.mono ?_
  rintro e w1 ⟨rfl, hb⟩
  have HB1 := Lib.hid hb
  have hT1 := Lib.hid (hT.out.call hb)
  clear hb
  go_wp2_with fail
  refine (q2.out _ hT1).mono ?_
  rintro e w2 ⟨rfl, hb⟩
  have HB2 := Lib.hid (HB1.out.trans (hb.mono HB1.out.size))
  clear hb
  go_wp2_with fail
  refine (q3.out _).mono ?_
  rintro e w3 ⟨rfl, hb⟩
  have HB3 := Lib.hid (HB2.out.trans (hb.mono HB2.out.size))
  clear hb
  go_wp2_with fail
  go_ret
  exact ⟨rfl, HB3.out⟩
end Go.Proofs.YtgjehokkmdbknaaDoor
