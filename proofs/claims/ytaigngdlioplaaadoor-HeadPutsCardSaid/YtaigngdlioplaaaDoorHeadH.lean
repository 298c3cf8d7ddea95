/- The walk of HeadChains. -/
import Derived.Test.YtaigngdlioplaaaDoorHeadG
import Derived.Test.YtaigngdlioplaaaDoorShaZ
namespace Go.Proofs.YtaigngdlioplaaaDoor
open Go Go.RowKit

theorem emp_cut : cutS (nth kList) hSt ⟨#[]⟩ 32 = ⟨#[227, 176, 196, 66, 152, 252, 28, 20, 154, 251, 244, 200, 153, 111, 185, 36, 39, 174, 65, 228, 100, 155, 147, 76, 164, 149, 153, 27, 120, 82, 184, 85]⟩ := by
  unfold cutS
  rw [if_neg (by decide), show (⟨#[]⟩ : ByteArray) = empS from rfl, emp_sum]
  decide +kernel

set_option maxRecDepth 100000 in
set_option maxHeartbeats 1000000 in
theorem alive08 (w : World) (hT : Hid (ShaT w (nth kList) hSt)) :
    Calls Tryd.prog 13 #[] w fun e w' => e = .returned (.bool true) ∧ Below w.heap.size w w' := by
  have q1 : Hid (Calls Tryd.prog 56 #[.slice none 0 0, .int .i64 32] w fun e w' => e = .returned (.tuple #[.string ⟨#[227, 176, 196, 66, 152, 252, 28, 20, 154, 251, 244, 200, 153, 111, 185, 36, 39, 174, 65, 228, 100, 155, 147, 76, 164, 149, 153, 27, 120, 82, 184, 85]⟩, .int .i64 0]) ∧ Below w.heap.size w w') := by
    have := Chain_any (nth kList) hSt none 0 0 (fun _ => ⟨0, 0, 0, 0, ⟨#[]⟩, ⟨#[]⟩⟩) 32 w hT (by show _ ∧ _; decide) (by show _ ≤ _; decide) (by intro i hi; omega)
    rw [show chainR (nth kList) hSt 32 (fun _ => ⟨0, 0, 0, 0, ⟨#[]⟩, ⟨#[]⟩⟩) 0 = some (0, cutS (nth kList) hSt ⟨#[]⟩ (32 : Nat)) from rfl] at this
    rw [show cutS (nth kList) hSt ⟨#[]⟩ (32 : Nat) = cutS (nth kList) hSt ⟨#[]⟩ 32 from rfl, emp_cut] at this
    exact this
  have q2 : Hid (∀ w, Hid (ShaT w (nth kList) hSt) → Calls Tryd.prog 19 #[.int .i64 32] w fun e w' => e = .returned (.string ⟨#[227, 176, 196, 66, 152, 252, 28, 20, 154, 251, 244, 200, 153, 111, 185, 36, 39, 174, 65, 228, 100, 155, 147, 76, 164, 149, 153, 27, 120, 82, 184, 85]⟩) ∧ Below w.heap.size w w') := fun w hT => by
    have := First_any (nth kList) hSt 32 w hT (by show _ ∧ _; decide)
    rw [emp_cut] at this
    exact this
  generalize nth kList = K at *
  generalize hSt = H at *
  go_enter Tryd.func13, Tryd.ntmps13
  go_wp2_with fail
  refine q1.out.mono ?_
  rintro e w1 ⟨rfl, hb⟩
  have HB1 := Lib.hid hb
  have hT1 := Lib.hid (hT.out.call hb)
  clear hb
  go_wp2_with fail
  refine (q2.out _ hT1).mono ?_
  rintro e w2 ⟨rfl, hb⟩
  have HB2 := Lib.hid (HB1.out.trans (hb.mono HB1.out.size))
  clear hb
  go_wp2_with fail
  go_ret
  exact ⟨rfl, HB2.out⟩

end Go.Proofs.YtaigngdlioplaaaDoor
