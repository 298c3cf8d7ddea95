/- The walk of RulesWeighs. -/
import Derived.Test.YteeemoknbnlopaaDoorRuleN
import Derived.Test.YteeemoknbnlopaaDoorRuleK
import Derived.Test.YteeemoknbnlopaaDoorRuleL
namespace Go.Proofs.YteeemoknbnlopaaDoor
open Go Go.RowKit Shelf
set_option linter.unusedVariables false

set_option maxRecDepth 100000 in
set_option maxHeartbeats 4000000 in
theorem RulesWeighs_walk (v : Value) (l : List Stp) (w : World) (hT : Hid (Law16 w)) (hv : Hid (StepsAt w v l)) (hl : l.length ≤ 9223372036854775807) :
    Calls Tryd.prog 7 #[v] w fun e w' => e = .returned (.bool true) ∧ Below w.heap.size w w' := by
  have a0 := Lib.hid (alive16 w hT)
  obtain ⟨A, c, rfl, _⟩ := hv.out
  by_cases h60 : 60 < l.length
  · have t1 : decide ((60 : Int) < (l.length : Int)) = true := decide_eq_true (by omega)
    clear h60
    go_enter Tryd.func7, Tryd.ntmps7
    go_wp2_with fail
    refine a0.out.mono ?_
    rintro e w1 ⟨rfl, hb⟩
    have HB1 := Lib.hid hb
    clear hb
    go_wp2_with fail
    go_ret
    exact ⟨rfl, HB1.out⟩
  have t1 : decide ((60 : Int) < (l.length : Int)) = false := decide_eq_false (by omega)
  have hl60 : l.length ≤ 60 := by omega
  clear h60 hl
  have q1 := Lib.hid (fun w hT hv => Weigh_any (.slice A l.length c) l w hT hv (by omega))
  have q2 := Lib.hid (fun w hT hv => May_any (.slice A l.length c) l w hT hv (by omega))
  have q3 := Lib.hid (fun w hv => rMay_any (.slice A l.length c) l w hv (by omega))
  have q4 := Lib.hid (fun w hv => rWeigh_any (.slice A l.length c) l w hv (by omega))
  have q5 := Lib.hid (fun s w => rHolds_any s w)
  have hall : Hid (mayS l = true → ((goW l 0).1 == 0) = l.all (·.holds)) := fun h => goW_all l 0 (mayS_known h)
  obtain ⟨m, hm⟩ : ∃ m, mayS l = m := ⟨_, rfl⟩
  rw [hm] at q1 q2 q3 hall
  clear hm
  cases m with
  | false =>
    rw [if_neg (by simp)] at q1
    clear hall
    go_enter Tryd.func7, Tryd.ntmps7
    go_wp2_with fail
    refine a0.out.mono ?_
    rintro e w1 ⟨rfl, hb⟩
    have HB1 := Lib.hid hb
    have hT1 := Lib.hid (hT.out.call hb)
    have hv1 := Lib.hid (hv.out.call hb)
    clear hb
    go_wp2_with fail
    with_reducible refine (q1.out _ hT1 hv1).mono ?_
    rintro e w2 ⟨rfl, hb⟩
    have HB2 := Lib.hid (HB1.out.trans (hb.mono HB1.out.size))
    have hT2 := Lib.hid (hT1.out.call hb)
    have hv2 := Lib.hid (hv1.out.call hb)
    clear hb
    have HA := below_alloc (Below.refl w2.heap.size w2) (Nat.le_refl _) (.cells #[.int .i64 0, .int .i64 0] 49)
    have D3 := Lib.hid (heap_new w2 (.cells #[.int .i64 0, .int .i64 0] 49))
    have HB3 := Lib.hid (HB2.out.trans (HA.mono HB2.out.size))
    have hT3 := Lib.hid (hT2.out.call HA)
    have hv3 := Lib.hid (hv2.out.call HA)
    clear HA
    go_wp2_with fail
    with_reducible refine (q2.out _ hT3 hv3).mono ?_
    rintro e w4 ⟨rfl, hb⟩
    have HB4 := Lib.hid (HB3.out.trans (hb.mono HB3.out.size))
    have hv4 := Lib.hid (hv3.out.call hb)
    have D4 := Lib.hid (blk_call D3.out hb)
    clear hb
    go_wp2_with fail
    with_reducible refine (q3.out _ hv4).mono ?_
    rintro e w5 ⟨rfl, hb⟩
    have HB5 := Lib.hid (HB4.out.trans (hb.mono HB4.out.size))
    have hv5 := Lib.hid (hv4.out.call hb)
    have D5 := Lib.hid (blk_call D4.out hb)
    clear hb
    go_wp2_with fail
    with_reducible refine (q3.out _ hv5).mono ?_
    rintro e w6 ⟨rfl, hb⟩
    have HB6 := Lib.hid (HB5.out.trans (hb.mono HB5.out.size))
    have D6 := Lib.hid (blk_call D5.out hb)
    clear hb
    have g0 := cells_of_blk D6.out 0 _ rfl
    have g1 := cells_of_blk D6.out 1 _ rfl
    go_wp2_with fail
    go_ret
    exact ⟨rfl, HB6.out⟩
  | true =>
    rw [if_pos rfl] at q1
    have hallT := Lib.hid (hall.out rfl)
    clear hall
    obtain ⟨x, hx⟩ : ∃ x, goW l 0 = x := ⟨_, rfl⟩
    obtain ⟨cd, n⟩ := x
    rw [hx] at q1 q4 hallT
    simp only [] at q1 q4 hallT
    clear hx
    go_enter Tryd.func7, Tryd.ntmps7
    go_wp2_with fail
    refine a0.out.mono ?_
    rintro e w1 ⟨rfl, hb⟩
    have HB1 := Lib.hid hb
    have hT1 := Lib.hid (hT.out.call hb)
    have hv1 := Lib.hid (hv.out.call hb)
    clear hb
    go_wp2_with fail
    with_reducible refine (q1.out _ hT1 hv1).mono ?_
    rintro e w2 ⟨rfl, hb⟩
    have HB2 := Lib.hid (HB1.out.trans (hb.mono HB1.out.size))
    have hT2 := Lib.hid (hT1.out.call hb)
    have hv2 := Lib.hid (hv1.out.call hb)
    clear hb
    have HA := below_alloc (Below.refl w2.heap.size w2) (Nat.le_refl _) (.cells #[.int .i64 cd, .int .i64 n] 49)
    have D3 := Lib.hid (heap_new w2 (.cells #[.int .i64 cd, .int .i64 n] 49))
    have HB3 := Lib.hid (HB2.out.trans (HA.mono HB2.out.size))
    have hT3 := Lib.hid (hT2.out.call HA)
    have hv3 := Lib.hid (hv2.out.call HA)
    clear HA
    go_wp2_with fail
    with_reducible refine (q2.out _ hT3 hv3).mono ?_
    rintro e w4 ⟨rfl, hb⟩
    have HB4 := Lib.hid (HB3.out.trans (hb.mono HB3.out.size))
    have hv4 := Lib.hid (hv3.out.call hb)
    have D4 := Lib.hid (blk_call D3.out hb)
    clear hb
    go_wp2_with fail
    with_reducible refine (q3.out _ hv4).mono ?_
    rintro e w5 ⟨rfl, hb⟩
    have HB5 := Lib.hid (HB4.out.trans (hb.mono HB4.out.size))
    have hv5 := Lib.hid (hv4.out.call hb)
    have D5 := Lib.hid (blk_call D4.out hb)
    clear hb
    go_wp2_with fail
    with_reducible refine (q3.out _ hv5).mono ?_
    rintro e w6 ⟨rfl, hb⟩
    have HB6 := Lib.hid (HB5.out.trans (hb.mono HB5.out.size))
    have hv6 := Lib.hid (hv5.out.call hb)
    have D6 := Lib.hid (blk_call D5.out hb)
    clear hb D5 D4 D3 HB1 HB2 HB3 HB4 HB5 hv1 hv2 hv3 hv4 hv5 hT1 hT2 hT3 q1 q2 q3
    generalize w2.heap.size = G at *
    go_wp2_with fail
    go_loopw [5, 6] (fun s5 s6 wr => ∃ (k : Nat), s5 = .bool ((l.take k).all (·.holds)) ∧ s6 = .int .i64 k ∧ Hid (k ≤ l.length) ∧ Hid (wr.heap[G]? = w6.heap[G]?) ∧ Hid (StepsAt wr (.slice A l.length c) l) ∧ Hid (Below w.heap.size w wr)) (fun _ s6 _ => l.length - (intOf s6).toNat)
    case atStart => exact ⟨0, rfl, rfl, Nat.zero_le _, rfl, hv6.out, HB6.out⟩
    case round =>
      obtain ⟨k, rfl, rfl, hk, hD, hvr, hB⟩ := hrel
      by_cases hkl : k < l.length
      · obtain ⟨A', c', hA', hci⟩ := hvr.out
        cases hA'
        have hge : l[k]? = some l[k] := List.getElem?_eq_getElem hkl
        obtain ⟨hf, b, o, rfl, hbl, h0, h1, h2, h3⟩ := hci k _ hge
        have hst : Hid ((l.take (k + 1)).all (·.holds) = ((l.take k).all (·.holds) && (l[k]).holds)) := by
          show _ = _
          rw [List.take_succ_eq_append_getElem hkl, List.all_append]; simp
        clear hci hge
        generalize l[k] = s at *
        obtain ⟨r, x, y, ov⟩ := s
        have h0 : wr.cell? ⟨b, o + k * 4, none⟩ = some (.int .i64 r) := h0
        have h1 : wr.cell? ⟨b, o + k * 4 + 1, none⟩ = some (.int .i64 x) := h1
        have h2 : wr.cell? ⟨b, o + k * 4 + 2, none⟩ = some (.int .i64 y) := h2
        have h3 : wr.cell? ⟨b, o + k * 4 + 3, none⟩ = some (.bool ov) := h3
        have qh : Hid (∀ w, Calls Tryd.prog 24 #[.agg #[.int .i64 r, .int .i64 x, .int .i64 y, .bool ov]] w fun e w' => e = .returned (.bool (Stp.mk r x y ov).holds) ∧ Below w.heap.size w w') := fun w => q5.out ⟨r, x, y, ov⟩ w
        have hGl : G < wr.heap.size := by have := (Array.getElem?_eq_some_iff.1 (hD.out.trans D6.out)).1; omega
        generalize (Stp.mk r x y ov).holds = z at *
        cases hz : (l.take k).all (·.holds) with
        | true =>
          rw [hz] at hst
          clear hz
          go_wp2_with fail
          with_reducible refine (qh.out _).mono ?_
          rintro e w7 ⟨rfl, hb⟩
          have HB7 := Lib.hid (hB.out.trans (hb.mono hB.out.size))
          have hv7 := Lib.hid (hvr.out.call hb)
          have hD7 := Lib.hid ((hb.block _ hGl).trans hD.out)
          clear hb h0 h1 h2 h3
          go_wp2_with fail
          go_roundw
          case rel => exact ⟨k + 1, by rw [hst.out]; rfl, by go_num, by show _ ≤ _; omega, hD7.out, hv7.out, HB7.out⟩
          case measure => simp [intOf]; omega
        | false =>
          rw [hz] at hst
          clear hz
          go_wp2_with fail
          go_roundw
          case rel => exact ⟨k + 1, by rw [hst.out]; rfl, by go_num, by show _ ≤ _; omega, hD.out, hvr.out, hB.out⟩
          case measure => simp [intOf]; omega
      · have hkk : k = l.length := by have := hk.out; omega
        subst hkk
        rw [List.take_length]
        obtain ⟨z, hz⟩ : ∃ z, l.all (·.holds) = z := ⟨_, rfl⟩
        rw [hz] at hallT ⊢
        have HZ : (cd == 0) = z := hallT.out
        clear hz hallT
        have l1 := (Array.getElem?_eq_some_iff.1 (hD.out.trans D6.out)).1
        have g0 := cells_of_blk (hD.out.trans D6.out) 0 _ rfl
        have g1 := cells_of_blk (hD.out.trans D6.out) 1 _ rfl
        have qE := Lib.hid (fun (x : ExtOf wr) => q4.out x.w (Lib.hid (hvr.out.call x.below)))
        clear hD hvr D6 hv6 HB6 q4 q5 hv hT
        go_wp2_with fail
        cases z
        all_goals
          refine wp_region_ext (by kernel_rfl) (by kernel_rfl) ?_
          repeat (go_big_quiet_step (with_reducible exact ext_call (qE.out _)))
          refine wpQuiet_nil ?_
          rintro w' ⟨y, rfl⟩
          have HB9 := Lib.hid (hB.out.trans (y.below.mono hB.out.size))
          go_wp2_with fail
          go_ret
          refine ⟨?_, HB9.out⟩
          first
            | rfl
            | (show Ending.returned (.bool (!(cd == 0))) = _; rw [HZ]; rfl)
            | (show Ending.returned (.bool (cd == 0)) = _; rw [HZ])
end Go.Proofs.YteeemoknbnlopaaDoor
