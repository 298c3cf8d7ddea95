/- The walk of TreeHashes. -/
import Derived.Test.YtaigngdlioplaaaDoorTreeD
namespace Go.Proofs.YtaigngdlioplaaaDoor
open Go Go.RowKit

theorem cutS_off (K : Nat → Int) (H : St) (s : ByteArray) (n : Int) (h : n < 1 ∨ 32 < n) : cutS K H s n = ⟨#[]⟩ := by unfold cutS; rw [if_pos h]

set_option maxRecDepth 100000 in
set_option maxHeartbeats 1000000 in
theorem TreeHashes_walk (a b : ByteArray) (n count : Int) (w : World) (hT : Hid (ShaT w (nth kList) hSt)) (ha : a.size ≤ 140737488351232) (hb : b.size ≤ 140737488351232) (hn : Hid (I64 n)) (hc : Hid (I64 count)) :
    Calls Tryd.prog 5 #[.string a, .string b, .int .i64 n, .int .i64 count] w fun e w' => e = .returned (.bool true) ∧ Below w.heap.size w w' := by
  have a0 := Lib.hid (alive03 (nth kList) hSt w hT)
  by_cases hs : a.size ≤ 400
  · by_cases hs2 : b.size ≤ 400
    · by_cases hs3 : a.size + b.size ≤ 400
      · have q1 := Lib.hid (fun w h => Leaf_any (nth kList) hSt a n w h (by show _ ≤ _; omega) hn)
        have q2 := Lib.hid (fun w h => Node_any (nth kList) hSt a b n w h (by show _ ≤ _; omega) (by show _ ≤ _; omega) hn)
        have q3 := Lib.hid (fun w => Split_any count w hc)
        have q4 := Lib.hid (fun w => rSplit_any count w hc)
        generalize splitI count = X at *
        by_cases hoff : n < 1 ∨ 32 < n
        · have e1 : leafS (nth kList) hSt n a = ⟨#[]⟩ := cutS_off _ _ _ n hoff
          have e2 : nodeS (nth kList) hSt n a b = ⟨#[]⟩ := cutS_off _ _ _ n hoff
          rw [e1] at q1
          rw [e2] at q2
          generalize nth kList = K at *
          generalize hSt = H at *
          clear e1 e2
          rcases hoff with hoff | hoff
          all_goals
            go_enter Tryd.func5, Tryd.ntmps5
            go_wp2_with fail
            refine a0.out.mono ?_
            rintro e w1 ⟨rfl, hb⟩
            have HB1 := Lib.hid hb
            have hT1 := Lib.hid (hT.out.call hb)
            clear hb
            go_wp2_with fail
            refine (q1.out _ hT1).mono ?_
            rintro e w2 ⟨rfl, hb⟩
            have HB2 := Lib.hid (HB1.out.trans (hb.mono HB1.out.size))
            have hT2 := Lib.hid (hT1.out.call hb)
            clear hb
            go_wp2_with fail
            refine (q2.out _ hT2).mono ?_
            rintro e w3 ⟨rfl, hb⟩
            have HB3 := Lib.hid (HB2.out.trans (hb.mono HB2.out.size))
            clear hb
            go_wp2_with fail
            refine (q3.out _).mono ?_
            rintro e w4 ⟨rfl, rfl⟩
            go_wp2_with fail
            refine (q4.out _).mono ?_
            rintro e w4 ⟨rfl, rfl⟩
            go_wp2_with fail
            go_ret
            exact ⟨rfl, HB3.out⟩
        · obtain ⟨m, rfl⟩ := Int.eq_ofNat_of_zero_le (show 0 ≤ n by omega)
          have hm : Hid (1 ≤ m ∧ m ≤ 32) := by show _ ∧ _; omega
          have q5 := Lib.hid (fun w => rLeaf_any a m w (by show _ ≤ _; omega) hm)
          have q6 := Lib.hid (fun w => rNode_any a b m w (by show _ ≤ _; omega) (by show _ ≤ _; omega) hm)
          have qK := Lib.hid (fun w => MakeKey_any w)
          have hks := Lib.hid key72_size
          have hon := Lib.hid key72_one
          generalize leafS (nth kList) hSt m a = S1 at *
          generalize nodeS (nth kList) hSt m a b = S2 at *
          generalize nth kList = K at *
          generalize hSt = H at *
          generalize key72 = KA at *
          have hbq1 : (S1.toList == S1.toList) = true := by simp
          have hbq2 : (S2.toList == S2.toList) = true := by simp
          go_enter Tryd.func5, Tryd.ntmps5
          go_wp2_with fail
          refine a0.out.mono ?_
          rintro e w1 ⟨rfl, hb⟩
          have HB1 := Lib.hid hb
          have hT1 := Lib.hid (hT.out.call hb)
          clear hb
          go_wp2_with fail
          refine (q1.out _ hT1).mono ?_
          rintro e w2 ⟨rfl, hb⟩
          have HB2 := Lib.hid (HB1.out.trans (hb.mono HB1.out.size))
          have hT2 := Lib.hid (hT1.out.call hb)
          clear hb
          go_wp2_with fail
          refine (q2.out _ hT2).mono ?_
          rintro e w3 ⟨rfl, hb⟩
          have HB3 := Lib.hid (HB2.out.trans (hb.mono HB2.out.size))
          clear hb
          go_wp2_with fail
          refine (q3.out _).mono ?_
          rintro e w4 ⟨rfl, rfl⟩
          go_wp2_with fail
          refine (q4.out _).mono ?_
          rintro e w4 ⟨rfl, rfl⟩
          go_wp2_with fail
          refine (qK.out _).mono ?_
          rintro e w4 ⟨rfl, hb⟩
          have HB4 := Lib.hid (HB3.out.trans (hb.mono HB3.out.size))
          clear hb
          go_wp2_with (first
                       | (refine wpList_load_row rfl 37 (.tmp 11) rfl w4.heap.size rfl 37 KA (0, 0) _ HK5.out Tryd.underlying37 rfl (by rw [hks.out]; kernel_rfl) ?_)
                       | (refine wpList_store_rowTo rfl 37 (.tmp 11) (.tmp 44) rfl rfl w4.heap.size KA rfl rfl 37 _ (blk_new w4 _ _ rfl) (by rw [hks.out]; kernel_rfl) (by rw [hks.out]; rfl) hon.out ?_
                          obtain ⟨w5, hw5⟩ : ∃ w5, (w4.alloc (.cells Tryd.zeroCells37 37)).setRow w4.heap.size KA = w5 := ⟨_, rfl⟩
                          have HK5 : Hid (w5.heap[w4.heap.size]? = some (.cells KA 37 (0, 0))) := by rw [← hw5]; exact setRow_heap _ _ _ _ _ _ (blk_new w4 _ _ rfl)
                          have HB5 : Hid (Below w.heap.size w w5) := by rw [← hw5]; exact below_setRow (below_alloc HB4.out HB4.out.size _) HB4.out.size _
                          rw [hw5]
                          clear hw5))
          refine (q5.out _).mono ?_
          rintro e w6 ⟨rfl, hb⟩
          have HB6 := Lib.hid (HB5.out.trans (hb.mono HB5.out.size))
          have HK6 := Lib.hid (blk_call HK5.out hb)
          clear hb
          go_wp2_with (refine wpList_load_row_g (by rfl) 37 (.tmp 11) rfl w4.heap.size rfl 37 KA (0, 0) _ HK6.out Tryd.underlying37 rfl (by rw [hks.out]; kernel_rfl) ?_)
          refine (q6.out _).mono ?_
          rintro e w7 ⟨rfl, hb⟩
          have HB7 := Lib.hid (HB6.out.trans (hb.mono HB6.out.size))
          clear hb
          go_wp2_with fail
          go_ret
          exact ⟨rfl, HB7.out⟩
      · go_enter Tryd.func5, Tryd.ntmps5
        go_wp2_with fail
        refine a0.out.mono ?_
        rintro e w1 ⟨rfl, hb⟩
        have HB := Lib.hid hb
        clear hb
        go_wp2_with fail
        go_ret
        exact ⟨rfl, HB.out⟩
    · have hs4 : 400 < b.size := by omega
      go_enter Tryd.func5, Tryd.ntmps5
      go_wp2_with fail
      refine a0.out.mono ?_
      rintro e w1 ⟨rfl, hb⟩
      have HB := Lib.hid hb
      clear hb
      go_wp2_with fail
      go_ret
      exact ⟨rfl, HB.out⟩
  · have hs4 : 400 < a.size := by omega
    go_enter Tryd.func5, Tryd.ntmps5
    go_wp2_with fail
    refine a0.out.mono ?_
    rintro e w1 ⟨rfl, hb⟩
    have HB := Lib.hid hb
    clear hb
    go_wp2_with fail
    go_ret
    exact ⟨rfl, HB.out⟩
end Go.Proofs.YtaigngdlioplaaaDoor
