/- The reference's Sum. -/
import Derived.Test.YtaigngdlioplaaaDoorShaK
namespace Go.Proofs.YtaigngdlioplaaaDoor
open Go Go.RowKit

set_option maxRecDepth 100000 in
set_option maxHeartbeats 1000000 in
theorem rSum_any (s : ByteArray) (w : World) (hs : Hid (s.size ≤ 1099511000000)) :
    Calls Tryd.prog 55 #[.string s] w fun e w' => e = .returned (.string (sumS (nth kList) hSt (bytesL s))) ∧ Below w.heap.size w w' := by
  have q := Lib.hid (fun w => Digest_any s w hs)
  have m := Lib.hid (MakeKey_any w)
  generalize key72 = A at *
  go_enter Tryd.func55, Tryd.ntmps55
  go_wp2_with fail
  refine m.out.mono ?_
  rintro e w1 ⟨rfl, hb⟩
  have HB := Lib.hid hb
  clear hb m
  go_wp2_with fail
  refine (q.out _).mono ?_
  rintro e w2 ⟨rfl, hb⟩
  have HB2 := Lib.hid (HB.out.trans (hb.mono HB.out.size))
  clear hb
  go_wp2_with fail
  go_ret
  exact ⟨rfl, HB2.out⟩
end Go.Proofs.YtaigngdlioplaaaDoor
