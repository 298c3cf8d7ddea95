/- The walk of ShaSums. -/
import Derived.Test.YtgjehokkmdbknaaDoorShaM
import Derived.Test.YtgjehokkmdbknaaDoorShaL
import Derived.Test.YtgjehokkmdbknaaDoorShaO
namespace Go.Proofs.YtgjehokkmdbknaaDoor
open Go Go.RowKit

set_option maxRecDepth 100000 in
set_option maxHeartbeats 4000000 in
theorem ShaSums_walk (s : ByteArray) (n : Int) (w : World) (hT : Hid (ShaT w (nth kList) hSt)) (hn : Hid (I64 n)) (hm : s.size ≤ 9223372036854775807) :
    Calls Tryd.prog 4 #[.string s, .int .i64 n] w fun e w' => e = .returned (.bool true) ∧ Below w.heap.size w w' := by
  have a0 := Lib.hid (alive_any w hT)
  by_cases hs : s.size ≤ 1000
  · have q1 := Lib.hid (fun w => rSum_any s w (by show _ ≤ _; omega))
    have q2 := Lib.hid (fun w h => Cut_any (nth kList) hSt s n w h (by show _ ≤ _; omega) hn)
    have q3 := Lib.hid (fun w h => Sum_any (nth kList) hSt s w h (by show _ ≤ _; omega))
    have q4 := Lib.hid (fun w => Hex_any s w (by show _ ≤ _; omega))
    have q5 := Lib.hid (fun w => rHex_any s w (by show _ ≤ _; omega))
    have hsz := sumS_size (nth kList) hSt (bytesL s)
    unfold cutS at q2
    generalize strOfNums (hexL s.data.toList) = X at *
    generalize sumS (nth kList) hSt (bytesL s) = S at *
    generalize nth kList = K at *
    generalize hSt = H at *
    have HSZ := Lib.hid hsz
    clear hsz
    by_cases hb : n < 1 ∨ 32 < n
    · rw [if_pos hb] at q2
      have q2 : Hid (∀ w, Hid (ShaT w K H) → Calls Tryd.prog 17 #[.string s, .int .i64 n] w fun e w' => e = .returned (.tuple #[.string ⟨#[]⟩, .int .i64 1]) ∧ Below w.heap.size w w') := fun w h => by
        have := q2.out w h
        rwa [if_pos hb] at this
      rcases hb with hb | hb
      · go_enter Tryd.func4, Tryd.ntmps4
        go_wp2_with fail
        refine a0.out.mono ?_
        rintro e w1 ⟨rfl, hb⟩
        have hT1 := Lib.hid (hT.out.call hb)
        have HB1 := Lib.hid hb
        clear hb
        go_wp2_with fail
        refine (q1.out _).mono ?_
        rintro e w2 ⟨rfl, hb⟩
        have hT2 := Lib.hid (hT1.out.call hb)
        have HB2 := Lib.hid (HB1.out.trans (hb.mono HB1.out.size))
        clear hb
        go_wp2_with fail
        refine (q2.out _ hT2).mono ?_
        rintro e w3 ⟨rfl, hb⟩
        have hT3 := Lib.hid (hT2.out.call hb)
        have HB3 := Lib.hid (HB2.out.trans (hb.mono HB2.out.size))
        clear hb
        go_wp2_with fail
        refine (q3.out _ hT3).mono ?_
        rintro e w4 ⟨rfl, hb⟩
        have hT4 := Lib.hid (hT3.out.call hb)
        have HB4 := Lib.hid (HB3.out.trans (hb.mono HB3.out.size))
        clear hb
        go_wp2_with fail
        refine (q4.out _).mono ?_
        rintro e w5 ⟨rfl, hb⟩
        have hT5 := Lib.hid (hT4.out.call hb)
        have HB5 := Lib.hid (HB4.out.trans (hb.mono HB4.out.size))
        clear hb
        go_wp2_with fail
        refine (q5.out _).mono ?_
        rintro e w6 ⟨rfl, hb⟩
        have hT6 := Lib.hid (hT5.out.call hb)
        have HB6 := Lib.hid (HB5.out.trans (hb.mono HB5.out.size))
        clear hb
        go_wp2_with fail
        go_ret
        exact ⟨rfl, HB6.out⟩
      · have hb1 : 1 ≤ n := by omega
        go_enter Tryd.func4, Tryd.ntmps4
        go_wp2_with fail
        refine a0.out.mono ?_
        rintro e w1 ⟨rfl, hb⟩
        have hT1 := Lib.hid (hT.out.call hb)
        have HB1 := Lib.hid hb
        clear hb
        go_wp2_with fail
        refine (q1.out _).mono ?_
        rintro e w2 ⟨rfl, hb⟩
        have hT2 := Lib.hid (hT1.out.call hb)
        have HB2 := Lib.hid (HB1.out.trans (hb.mono HB1.out.size))
        clear hb
        go_wp2_with fail
        refine (q2.out _ hT2).mono ?_
        rintro e w3 ⟨rfl, hb⟩
        have hT3 := Lib.hid (hT2.out.call hb)
        have HB3 := Lib.hid (HB2.out.trans (hb.mono HB2.out.size))
        clear hb
        go_wp2_with fail
        refine (q3.out _ hT3).mono ?_
        rintro e w4 ⟨rfl, hb⟩
        have hT4 := Lib.hid (hT3.out.call hb)
        have HB4 := Lib.hid (HB3.out.trans (hb.mono HB3.out.size))
        clear hb
        go_wp2_with fail
        refine (q4.out _).mono ?_
        rintro e w5 ⟨rfl, hb⟩
        have hT5 := Lib.hid (hT4.out.call hb)
        have HB5 := Lib.hid (HB4.out.trans (hb.mono HB4.out.size))
        clear hb
        go_wp2_with fail
        refine (q5.out _).mono ?_
        rintro e w6 ⟨rfl, hb⟩
        have hT6 := Lib.hid (hT5.out.call hb)
        have HB6 := Lib.hid (HB5.out.trans (hb.mono HB5.out.size))
        clear hb
        go_wp2_with fail
        go_ret
        exact ⟨rfl, HB6.out⟩
    · obtain ⟨m, rfl⟩ := Int.eq_ofNat_of_zero_le (show 0 ≤ n by omega)
      rw [if_neg hb] at q2
      have q2 : Hid (∀ w, Hid (ShaT w K H) → Calls Tryd.prog 17 #[.string s, .int .i64 m] w fun e w' => e = .returned (.tuple #[.string (S.extract 0 m), .int .i64 0]) ∧ Below w.heap.size w w') := fun w h => by
        have := q2.out w h
        rwa [if_neg hb, Int.toNat_natCast] at this
      have hm1 : 1 ≤ m := by omega
      have hm2 : m ≤ 32 := by omega
      have hm3 : m ≤ S.size := by rw [HSZ.out]; exact hm2
      clear hb
      go_enter Tryd.func4, Tryd.ntmps4
      go_wp2_with fail
      refine a0.out.mono ?_
      rintro e w1 ⟨rfl, hb⟩
      have hT1 := Lib.hid (hT.out.call hb)
      have HB1 := Lib.hid hb
      clear hb
      go_wp2_with fail
      refine (q1.out _).mono ?_
      rintro e w2 ⟨rfl, hb⟩
      have hT2 := Lib.hid (hT1.out.call hb)
      have HB2 := Lib.hid (HB1.out.trans (hb.mono HB1.out.size))
      clear hb
      go_wp2_with fail
      refine (q2.out _ hT2).mono ?_
      rintro e w3 ⟨rfl, hb⟩
      have hT3 := Lib.hid (hT2.out.call hb)
      have HB3 := Lib.hid (HB2.out.trans (hb.mono HB2.out.size))
      clear hb
      go_wp2_with fail
      refine (q3.out _ hT3).mono ?_
      rintro e w4 ⟨rfl, hb⟩
      have hT4 := Lib.hid (hT3.out.call hb)
      have HB4 := Lib.hid (HB3.out.trans (hb.mono HB3.out.size))
      clear hb
      go_wp2_with fail
      refine (q4.out _).mono ?_
      rintro e w5 ⟨rfl, hb⟩
      have hT5 := Lib.hid (hT4.out.call hb)
      have HB5 := Lib.hid (HB4.out.trans (hb.mono HB4.out.size))
      clear hb
      go_wp2_with fail
      refine (q5.out _).mono ?_
      rintro e w6 ⟨rfl, hb⟩
      have hT6 := Lib.hid (hT5.out.call hb)
      have HB6 := Lib.hid (HB5.out.trans (hb.mono HB5.out.size))
      clear hb
      go_wp2_with fail
      go_ret
      exact ⟨rfl, HB6.out⟩
  · have hs2 : 1000 < s.size := by omega
    go_enter Tryd.func4, Tryd.ntmps4
    go_wp2_with fail
    refine a0.out.mono ?_
    rintro e w1 ⟨rfl, hb⟩
    have HB := Lib.hid hb
    clear hb
    go_wp2_with fail
    go_ret
    exact ⟨rfl, HB.out⟩
end Go.Proofs.YtgjehokkmdbknaaDoor
