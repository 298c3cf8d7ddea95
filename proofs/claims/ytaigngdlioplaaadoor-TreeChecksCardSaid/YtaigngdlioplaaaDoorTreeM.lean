/- The walk of TreeChecks. -/
import Derived.Test.YtaigngdlioplaaaDoorTreeL
import Derived.Test.YtaigngdlioplaaaDoorTreeI
namespace Go.Proofs.YtaigngdlioplaaaDoor
open Go Go.RowKit

set_option maxRecDepth 100000 in
set_option maxHeartbeats 2000000 in
theorem TreeChecks_walk (leaf : ByteArray) (k c : Int) (v : Value) (p : List ByteArray) (root : ByteArray) (n : Int) (w : World) (hT : Hid (ShaT w (nth kList) hSt)) (hv : Hid (StrsAt w v p)) (hl : p.length ≤ 9223372036854775807) (hz : Hid (∀ (i : Nat) (s : ByteArray), p[i]? = some s → s.size ≤ 9223372036854775807))
    (hs1 : leaf.size ≤ 9223372036854775807) (hs2 : root.size ≤ 9223372036854775807) :
    Calls Tryd.prog 7 #[.string leaf, .int .i64 k, .int .i64 c, v, .string root, .int .i64 n] w fun e w' => e = .returned (.bool true) ∧ Below w.heap.size w w' := by
  have a0 := Lib.hid (alive03 (nth kList) hSt w hT)
  have qG := Lib.hid (fun w h => Great_any v p w h hl hz)
  by_cases h400 : 400 < leaf.size
  · go_enter Tryd.func7, Tryd.ntmps7
    go_wp2_with fail
    refine a0.out.mono ?_
    rintro e w1 ⟨rfl, hb⟩
    have HB := Lib.hid hb
    clear hb
    go_wp2_with fail
    go_ret
    exact ⟨rfl, HB.out⟩
  · by_cases hoff : n < 1 ∨ 32 < n ∨ c < 1 ∨ 4096 < c ∨ k < 0 ∨ c ≤ k
    · have qC := Lib.hid (fun w => Check_off leaf k c v root n w hoff)
      have hoff2 : n < 1 ∨ (¬ n < 1 ∧ (32 < n ∨ (¬ 32 < n ∧ (c < 1 ∨ (¬ c < 1 ∧ (4096 < c ∨ (¬ 4096 < c ∧ (k < 0 ∨ ¬ k < 0 ∧ c ≤ k)))))))) := by omega
      clear hoff
      have core : ∀ (hx : n < 1 ∨ (¬ n < 1 ∧ (32 < n ∨ (¬ 32 < n ∧ (c < 1 ∨ (¬ c < 1 ∧ (4096 < c ∨ (¬ 4096 < c ∧ (k < 0 ∨ ¬ k < 0 ∧ c ≤ k))))))))), Calls Tryd.prog 7 #[.string leaf, .int .i64 k, .int .i64 c, v, .string root, .int .i64 n] w fun e w' => e = .returned (.bool true) ∧ Below w.heap.size w w' := by
        intro hx
        rcases hx with h1 | ⟨h1, h2 | ⟨h2, h3 | ⟨h3, h4 | ⟨h4, h5 | ⟨h5, h6⟩⟩⟩⟩⟩
        all_goals
          go_enter Tryd.func7, Tryd.ntmps7
          go_wp2_with fail
          refine a0.out.mono ?_
          rintro e w1 ⟨rfl, hb⟩
          have HB1 := Lib.hid hb
          have hv1 := Lib.hid (hv.out.call hb)
          clear hb
          go_wp2_with fail
          refine (qG.out _ hv1).mono ?_
          rintro e w2 ⟨⟨g, rfl, hgf⟩, rfl⟩
          clear hgf
          cases g with
          | true =>
            go_wp2_with fail
            go_ret
            exact ⟨rfl, HB1.out⟩
          | false =>
            by_cases hr : 400 < root.size
            · go_wp2_with fail
              go_ret
              exact ⟨rfl, HB1.out⟩
            · go_wp2_with fail
              refine (qC.out _).mono ?_
              rintro e w3 ⟨rfl, hb⟩
              have HB3 := Lib.hid (HB1.out.trans (hb.mono HB1.out.size))
              clear hb
              go_wp2_with fail
              go_ret
              exact ⟨rfl, HB3.out⟩
      exact core hoff2
    · obtain ⟨m, rfl⟩ := Int.eq_ofNat_of_zero_le (show 0 ≤ n by omega)
      obtain ⟨cn, rfl⟩ := Int.eq_ofNat_of_zero_le (show 0 ≤ c by omega)
      obtain ⟨kn, rfl⟩ := Int.eq_ofNat_of_zero_le (show 0 ≤ k by omega)
      have hm : Hid (1 ≤ m ∧ m ≤ 32) := by show _ ∧ _; omega
      have hm1 : 1 ≤ m := by omega
      have hm2 : m ≤ 32 := by omega
      have hc1 : 1 ≤ cn := by omega
      have hc2 : cn ≤ 4096 := by omega
      have hkc : kn < cn := by omega
      clear hoff
      have hk0 : ¬ ((kn : Int) < 0) := by omega
      have hkc2 : ¬ ((cn : Int) ≤ (kn : Int)) := by omega
      have qC := Lib.hid (fun w h1 h2 h3 => Check_any (nth kList) hSt leaf kn cn v p root m w h1 hm hkc hc2 (by show _ ≤ _; omega) h2 h3 hl)
      have qL := Lib.hid (fun w => rLeaf_any leaf m w (by show _ ≤ _; omega) hm)
      have hls : (leafS (nth kList) hSt m leaf).size ≤ 32 := cutS_le _ _ _ m
      have qR := Lib.hid (fun w h1 h2 h3 => rComes_any m (leafS (nth kList) hSt m leaf) hm (by show _ ≤ _; omega) cn p kn v w h1 h2 h3 hc1 hc2 hkc)
      have qK := Lib.hid (fun w => MakeKey_any w)
      have hks := Lib.hid key72_size
      have hon := Lib.hid key72_one
      rw [checkS_comes] at qC
      generalize (comesS (nth kList) hSt m (leafS (nth kList) hSt m leaf) cn kn p).1 = X at *
      generalize (comesS (nth kList) hSt m (leafS (nth kList) hSt m leaf) cn kn p).2 = B at *
      generalize leafS (nth kList) hSt m leaf = L0 at *
      generalize nth kList = K at *
      generalize hSt = H at *
      generalize key72 = KA at *
      go_enter Tryd.func7, Tryd.ntmps7
      go_wp2_with fail
      refine a0.out.mono ?_
      rintro e w1 ⟨rfl, hb⟩
      have HB1 := Lib.hid hb
      have hT1 := Lib.hid (hT.out.call hb)
      have hv1 := Lib.hid (hv.out.call hb)
      clear hb
      go_wp2_with fail
      refine (qG.out _ hv1).mono ?_
      rintro e w2 ⟨⟨g, rfl, hgf⟩, rfl⟩
      cases g with
      | true =>
        clear hgf
        go_wp2_with fail
        go_ret
        exact ⟨rfl, HB1.out⟩
      | false =>
        have hF := Lib.hid (fine_of (hgf rfl).2)
        have hp4 := Lib.hid (show p.length ≤ 4096 by have := (hgf rfl).1; omega)
        clear hgf
        by_cases hr : 400 < root.size
        · go_wp2_with fail
          go_ret
          exact ⟨rfl, HB1.out⟩
        · go_wp2_with fail
          refine (qC.out _ hT1 hv1 hF).mono ?_
          rintro e w3 ⟨rfl, hb⟩
          have HB3 := Lib.hid (HB1.out.trans (hb.mono HB1.out.size))
          clear hb
          go_wp2_with fail
          refine (qK.out _).mono ?_
          rintro e w5 ⟨rfl, hb⟩
          have HB5 := Lib.hid (HB3.out.trans (hb.mono HB3.out.size))
          clear hb
          go_wp2_with (refine wpList_store_rowTo rfl 37 (.tmp 14) (.tmp 63) rfl rfl w5.heap.size KA rfl rfl 37 _ (blk_new w5 _ _ rfl) (by rw [hks.out]; kernel_rfl) (by rw [hks.out]; rfl) hon.out ?_
                       obtain ⟨w6, hw6⟩ : ∃ w6, (w5.alloc (.cells Tryd.zeroCells37 37)).setRow w5.heap.size KA = w6 := ⟨_, rfl⟩
                       have HK6 : Hid (w6.heap[w5.heap.size]? = some (.cells KA 37 (0, 0))) := by rw [← hw6]; exact setRow_heap _ _ _ _ _ _ (blk_new w5 _ _ rfl)
                       have HB6 : Hid (Below w.heap.size w w6) := by rw [← hw6]; exact below_setRow (below_alloc HB5.out HB5.out.size _) HB5.out.size _
                       rw [hw6]
                       clear hw6)
          have hlt6 := (Array.getElem?_eq_some_iff.1 HK6.out).1
          have hkey : Hid (∀ x : ExtOf w6, (loadVar 37 ⟨w5.heap.size, 0, none⟩).run Tryd.prog x.w = .ok (.agg KA) x.w) := fun x =>
            run_loadVar_row x.w w5.heap.size 37 37 KA (0, 0) _ ((x.below.block _ hlt6).trans HK6.out) Tryd.underlying37 rfl (by rw [hks.out]; kernel_rfl)
          have qRx : Hid (∀ x : ExtOf w6, Calls Tryd.prog 40 #[.agg KA, .string L0, .int .i64 kn, .int .i64 cn, v, .int .i64 m] x.w fun e w' => e = .returned (.tuple #[.string X, .bool B]) ∧ Below x.w.heap.size x.w w') := fun x => qR.out x.w (Lib.hid ((hv.out.call HB6.out).call x.below)) hF hp4.out
          refine wp_region_ext (by kernel_rfl) (by kernel_rfl) ?_
          refine BigFrame.wpQuiet_want rfl fun KK hK => ?_
          refine quiet_load_row 37 (.tmp 14) rfl w5.heap.size rfl KA (by rintro wz ⟨x, rfl⟩; exact hkey.out x) (hK _ ?_)
          clear hK KK
          simp only [Act.put, List.setIfInBounds_toArray, List.set_cons_succ, List.set_cons_zero]
          refine BigFrame.wpQuiet_want rfl fun KK hK => ?_
          refine quiet_load_row 37 (.tmp 14) rfl w5.heap.size rfl KA (by rintro wz ⟨x, rfl⟩; exact hkey.out x) (hK _ ?_)
          clear hK KK
          simp only [Act.put, List.setIfInBounds_toArray, List.set_cons_succ, List.set_cons_zero]
          repeat (go_big_quiet_step (first | (with_reducible exact ext_call (qL.out _)) | (with_reducible exact ext_call (qRx.out _))))
          refine wpQuiet_nil ?_
          rintro w' ⟨y, rfl⟩
          have HEND := Lib.hid (HB6.out.trans (y.below.mono HB6.out.size))
          cases B with
          | false =>
            simp only [Bool.false_and]
            go_wp2_with fail
            go_ret
            exact ⟨rfl, HEND.out⟩
          | true =>
            simp only [Bool.true_and]
            by_cases hX : X = root
            · have hbq : (X.toList == root.toList) = true := by rw [hX]; simp
              rw [decide_eq_true hX]
              go_wp2_with fail
              go_ret
              exact ⟨rfl, HEND.out⟩
            · have hbq : (X.toList == root.toList) = false := strs_ne hX
              rw [decide_eq_false hX]
              go_wp2_with fail
              go_ret
              exact ⟨rfl, HEND.out⟩
end Go.Proofs.YtaigngdlioplaaaDoor
