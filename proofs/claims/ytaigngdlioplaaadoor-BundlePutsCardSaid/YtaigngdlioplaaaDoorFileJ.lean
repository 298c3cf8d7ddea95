/- The bundle's digest; BundlePuts. -/
import Derived.Test.YtaigngdlioplaaaDoorFileI
import Derived.Test.YtaigngdlioplaaaDoorShaF
import Derived.Test.YtaigngdlioplaaaDoorShaM
import Derived.Test.YtaigngdlioplaaaDoorCutR
import Derived.Test.YtaigngdlioplaaaDoorPost
namespace Go.Proofs.YtaigngdlioplaaaDoor
open Go Go.RowKit
set_option linter.unusedVariables false
set_option linter.unusedSimpArgs false

theorem putF_le {l : List Fil} (hm : mayF l = true) : (putF l).size ≤ 10 + 36 * l.length + usedF l := by
  have h1 := putFrom_le (numStr l.length) l (mayF_short hm).1 l.length (Nat.le_refl _)
  rw [List.take_length] at h1
  have h2 := numStr_size l.length
  show (putFrom (numStr l.length) l).size ≤ _
  omega
theorem putE_may {l : List Fil} (h : putE l = 0) : mayF l = true ∧ usedF l ≤ 1048576 := by
  unfold putE at h
  cases hm : mayF l
  · rw [hm, if_neg (by decide)] at h; exact absurd h (by decide)
  · rw [hm, if_pos rfl] at h
    by_cases hu : usedF l ≤ 1048576
    · exact ⟨rfl, hu⟩
    · rw [if_neg hu] at h; exact absurd h (by decide)
def digE (l : List Fil) (n : Int) : Int := if putE l = 0 then (if n < 1 ∨ 32 < n then 1 else 0) else putE l
def digV (K : Nat → Int) (H : St) (l : List Fil) (n : Int) : ByteArray := if putE l = 0 then cutS K H (putF l) n else ⟨#[]⟩

set_option maxRecDepth 100000 in
set_option maxHeartbeats 1000000 in
theorem DigestF_any (K : Nat → Int) (H : St) (v : Value) (l : List Fil) (n : Int) (w : World) (hT : Hid (ShaT w K H)) (hv : Hid (FilesAt w v l)) (hl : l.length ≤ 1000000) (hz : Hid (∀ (i : Nat) (f : Fil), l[i]? = some f → f.1.size ≤ 9223372036854775807)) (hu : usedF l ≤ 1000000000) (hn : Hid (I64 n)) :
    Calls Tryd.prog 50 #[v, .int .i64 n] w fun e w' => e = .returned (.tuple #[.string (digV K H l n), .int .i64 (digE l n)]) ∧ Below w.heap.size w w' := by
  have qP := Lib.hid (PutF_any v l w hv hl hz hu)
  by_cases hE : putE l = 0
  · have hs : (putF l).size ≤ 1099511000000 := by
      have h1 := putE_may hE
      have h2 := putF_le h1.1
      have h3 := (mayF_short h1.1).2
      omega
    have qC := Lib.hid (fun w hT => Cut_any K H (putF l) n w hT hs hn)
    rw [show digV K H l n = cutS K H (putF l) n from if_pos hE, show digE l n = (if n < 1 ∨ 32 < n then 1 else 0) from if_pos hE]
    rw [show putV l = putF l from if_pos hE, hE] at qP
    generalize (if n < 1 ∨ 32 < n then (1 : Int) else 0) = DE at *
    generalize cutS K H (putF l) n = DV at *
    generalize putF l = PF at *
    clear hE hs
    go_enter Tryd.func50, Tryd.ntmps50
    go_wp2_with fail
    with_reducible refine qP.out.mono ?_
    rintro e w1 ⟨rfl, hb⟩
    have HB1 := Lib.hid hb
    have HT1 := Lib.hid (hT.out.call hb)
    clear hb
    go_wp2_with fail
    with_reducible refine (qC.out _ HT1).mono ?_
    rintro e w2 ⟨rfl, hb⟩
    have HB2 := Lib.hid (HB1.out.trans (hb.mono HB1.out.size))
    clear hb
    go_wp2_with fail
    go_ret2
    exact ⟨rfl, HB2.out⟩
  · rw [show digV K H l n = ⟨#[]⟩ from if_neg hE, show digE l n = putE l from if_neg hE]
    generalize putV l = PV at *
    generalize putE l = PE at *
    have t1 : (PE == 0) = false := beq_eq_false_iff_ne.2 hE
    have t2 : (PE != 0) = true := by rw [bne, t1]; rfl
    clear hE
    go_enter Tryd.func50, Tryd.ntmps50
    go_wp2_with fail
    with_reducible refine qP.out.mono ?_
    rintro e w1 ⟨rfl, hb⟩
    have HB1 := Lib.hid hb
    clear hb
    go_wp2_with fail
    go_ret2
    exact ⟨rfl, HB1.out⟩
end Go.Proofs.YtaigngdlioplaaaDoor
