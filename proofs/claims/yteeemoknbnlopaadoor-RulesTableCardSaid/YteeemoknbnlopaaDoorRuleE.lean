/- rules.May (printed by genRuleE.py). -/
import Derived.Test.YteeemoknbnlopaaDoorRuleD
namespace Go.Proofs.YteeemoknbnlopaaDoor
open Go Go.RowKit Go.Maps Go.WideMaps Go.MapKept
set_option linter.unusedVariables false

set_option maxRecDepth 100000 in
set_option maxHeartbeats 4000000 in
theorem May_any (v : Value) (l : List Stp) (w : World) (hT : Hid (Law16 w)) (hv : Hid (StepsAt w v l)) (hl : l.length ≤ 1000) :
    Calls Tryd.prog 28 #[v] w fun e w' => e = .returned (.bool (mayS l)) ∧ Below w.heap.size w w' := by
  have qT := Lib.hid (fun n hn w => there_any n hn w)
  have qH := Lib.hid (fun s hs w h => Holds_any s hs w h)
  have hmm := @run_makeMap Tryd.prog
  obtain ⟨A, c, rfl, _⟩ := hv.out
  go_enter Tryd.func28, Tryd.ntmps28
  go_wp2_with fail
  go_loopw [10] (fun s10 wr => ∃ (k : Nat), s10 = .int .i64 k ∧ Hid (k ≤ l.length) ∧ Hid (SeenAt wr w.heap.size k ((l.take k).map (·.rule))) ∧ Hid (mayB l k = true) ∧ Hid (Below w.heap.size w wr)) (fun s10 _ => l.length - (intOf s10).toNat)
  case atStart => exact ⟨0, rfl, Nat.zero_le _, SeenAt.made w, rfl, (Below.refl _ _).alloc (Nat.le_refl _) _⟩
  case round =>
    obtain ⟨k, rfl, hk, hS, hM, hB⟩ := hrel
    clear hmm
    by_cases hkl : k < l.length
    · obtain ⟨A', c', hA', hci⟩ := (hv.out.call hB.out)
      cases hA'
      have hge : l[k]? = some l[k] := List.getElem?_eq_getElem hkl
      obtain ⟨hf, b, o, rfl, hbl, h0, h1, h2, h3⟩ := hci k _ hge
      have htk : Hid (l.take (k + 1) = l.take k ++ [l[k]]) := List.take_succ_eq_append_getElem hkl
      have HG := Lib.hid hge
      clear hci hge
      generalize l[k] = s at *
      obtain ⟨r, x, y, ov⟩ := s
      have h0 : wr.cell? ⟨b, o + k * 4, none⟩ = some (.int .i64 r) := h0
      have h1 : wr.cell? ⟨b, o + k * 4 + 1, none⟩ = some (.int .i64 x) := h1
      have h2 : wr.cell? ⟨b, o + k * 4 + 2, none⟩ = some (.int .i64 y) := h2
      have h3 : wr.cell? ⟨b, o + k * 4 + 3, none⟩ = some (.bool ov) := h3
      have hr : I64 r := hf.1
      have hr2 : Hid (I64 r) := hr
      have q1 := Lib.hid (fun w => qT.out r hr w)
      have q2 : Hid (∀ w, Hid (Law16 w) → Calls Tryd.prog 23 #[.agg #[.int .i64 r, .int .i64 x, .int .i64 y, .bool ov]] w fun e w' => e = .returned (.bool (Stp.mk r x y ov).holds) ∧ Below w.heap.size w w') := fun w h => qH.out ⟨r, x, y, ov⟩ hf w h
      have hkn : Hid ((Stp.mk r x y ov).known = decide (0 < r ∧ r < 24)) := rfl
      have hba : Hid ((Stp.mk r x y ov).bare = (ov && (x != 0 || y != 0))) := rfl
      have hkw : w.heap.size < wr.heap.size := hS.out.lt
      have hS1 := Lib.hid (hS.out.call ((Below.refl wr.heap.size wr).alloc (Nat.le_refl _) (.cells #[.int .i64 r, .int .i64 x, .int .i64 y, .bool ov] 39)))
      have HB1 := Lib.hid (below_alloc hB.out hB.out.size (.cells #[.int .i64 r, .int .i64 x, .int .i64 y, .bool ov] 39))
      have hblk : Hid ((wr.alloc (.cells #[.int .i64 r, .int .i64 x, .int .i64 y, .bool ov] 39)).heap[wr.heap.size]? = some (.cells #[.int .i64 r, .int .i64 x, .int .i64 y, .bool ov] 39 (0, 0))) := heap_new _ _
      have hT1 := Lib.hid (hT.out.call HB1.out)
      obtain ⟨z, hz⟩ : ∃ z, (((l.take k).map (·.rule)).any fun t => t == r) = z := ⟨_, rfl⟩
      have hse : Hid (((l.take k).any fun t => t.rule == r) = z) := by show _ = _; rw [← hz, List.any_map]; rfl
      have HZ := Lib.hid hz
      obtain ⟨kb, hkb⟩ : ∃ kb, decide (0 < r ∧ r < 24) = kb := ⟨_, rfl⟩
      rw [hkb] at q1 hkn
      obtain ⟨hb, hhb⟩ : ∃ hb, (Stp.mk r x y ov).holds = hb := ⟨_, rfl⟩
      rw [hhb] at q2
      have HH := Lib.hid hhb
      have hok : Hid (okB l k ⟨r, x, y, ov⟩ = (kb && !(ov && (x != 0 || y != 0)) && !z && (!decide (k + 1 < l.length) || hb))) := by
        show _ = _
        unfold okB
        rw [hkn.out, hba.out, hhb]
        show (kb && !(ov && (x != 0 || y != 0)) && !((l.take k).any fun t => t.rule == r) && _) = _
        rw [hse.out]
      have hex : Hid (okB l k ⟨r, x, y, ov⟩ = false → mayS l = false) := fun h => mayS_false HG.out h
      have hgo : Hid (okB l k ⟨r, x, y, ov⟩ = true → mayB l (k + 1) = true) := fun h => mayB_step HG.out hM.out h
      clear hkb hhb hz hkn hba hse qT qH hf HG hS hM
      by_cases hov : ov = true
      · by_cases hx : x = 0
        · by_cases hy : y = 0
          · subst hov hx hy
            cases kb with
            | false =>
              clear q2
              go_wp2_with fail
              with_reducible refine (q1.out _).mono ?_
              rintro e w2 ⟨rfl, rfl⟩
              go_wp2_with fail
              go_ret
              exact ⟨by rw [hex.out (by rw [hok.out]; rfl)]; rfl, HB1.out⟩
            | true =>
              have hlook := hS1.out.look hr2.out HZ.out
              cases z with
              | true =>
                clear q2
                go_wp2_with fail
                with_reducible refine (q1.out _).mono ?_
                rintro e w2 ⟨rfl, rfl⟩
                go_wp2_with fail
                go_ret
                exact ⟨by rw [hex.out (by rw [hok.out]; simp)]; rfl, HB1.out⟩
              | false =>
                by_cases hlast : k + 1 < l.length
                · have t9 : decide ((k : Int) < (l.length : Int) - 1) = true := decide_eq_true (by omega)
                  rw [decide_eq_true hlast] at hok
                  cases hb with
                  | false =>
                    go_wp2_with fail
                    with_reducible refine (q1.out _).mono ?_
                    rintro e w2 ⟨rfl, rfl⟩
                    go_wp2_with fail
                    with_reducible refine (q2.out _ hT1).mono ?_
                    rintro e w3 ⟨rfl, hb3⟩
                    have HB3 := Lib.hid (HB1.out.trans (hb3.mono HB1.out.size))
                    clear hb3
                    go_wp2_with fail
                    go_ret
                    exact ⟨by rw [hex.out (by rw [hok.out]; simp)]; rfl, HB3.out⟩
                  | true =>
                    go_wp2_with fail
                    with_reducible refine (q1.out _).mono ?_
                    rintro e w2 ⟨rfl, rfl⟩
                    go_wp2_with fail
                    with_reducible refine (q2.out _ hT1).mono ?_
                    rintro e w3 ⟨rfl, hb3⟩
                    have HB3 := Lib.hid (HB1.out.trans (hb3.mono HB1.out.size))
                    have hS3 := Lib.hid (hS1.out.call hb3)
                    have c0 := cells_of_blk (blk_call hblk.out hb3) 0 _ rfl
                    clear hb3
                    go_wp2_with (at_mapUpdate; refine wpList_update_seen _ rfl _ _ _ rfl hS3 (by omega) r hr2.out rfl rfl rfl ?_; intro w4 hS4 hg4)
                    have HB4 := Lib.hid (HB3.out.trans (below_grownR (B := w.heap.size) hg4.out (Nat.le_refl _) hS3.out.lt))
                    go_roundw
                    case rel => exact ⟨k + 1, by go_num, by show _ ≤ _; omega, by rw [htk.out, List.map_append]; exact hS4.out, hgo.out (by rw [hok.out]; simp), HB4.out⟩
                    case measure => simp [intOf]; omega
                · have t9 : decide ((k : Int) < (l.length : Int) - 1) = false := decide_eq_false (by omega)
                  rw [decide_eq_false hlast] at hok
                  have c0 := cells_of_blk hblk.out 0 _ rfl
                  go_wp2_with fail
                  with_reducible refine (q1.out _).mono ?_
                  rintro e w2 ⟨rfl, rfl⟩
                  go_wp2_with (at_mapUpdate; refine wpList_update_seen _ rfl _ _ _ rfl hS1 (by omega) r hr2.out rfl rfl rfl ?_; intro w4 hS4 hg4)
                  have HB4 := Lib.hid (HB1.out.trans (below_grownR (B := w.heap.size) hg4.out (Nat.le_refl _) hS1.out.lt))
                  go_roundw
                  case rel => exact ⟨k + 1, by go_num, by show _ ≤ _; omega, by rw [htk.out, List.map_append]; exact hS4.out, hgo.out (by rw [hok.out]; simp), HB4.out⟩
                  case measure => simp [intOf]; omega
          · have t1 : (y != 0) = true := by simp [hy]
            subst hov hx
            clear hy
            cases kb with
            | false =>
              clear q2
              go_wp2_with fail
              with_reducible refine (q1.out _).mono ?_
              rintro e w2 ⟨rfl, rfl⟩
              go_wp2_with fail
              go_ret
              exact ⟨by rw [hex.out (by rw [hok.out]; rfl)]; rfl, HB1.out⟩
            | true =>
              clear q2
              go_wp2_with fail
              with_reducible refine (q1.out _).mono ?_
              rintro e w2 ⟨rfl, rfl⟩
              go_wp2_with fail
              go_ret
              exact ⟨by rw [hex.out (by rw [hok.out]; simp_all)]; rfl, HB1.out⟩
        · have t1 : (x != 0) = true := by simp [hx]
          subst hov
          clear hx
          cases kb with
          | false =>
            clear q2
            go_wp2_with fail
            with_reducible refine (q1.out _).mono ?_
            rintro e w2 ⟨rfl, rfl⟩
            go_wp2_with fail
            go_ret
            exact ⟨by rw [hex.out (by rw [hok.out]; rfl)]; rfl, HB1.out⟩
          | true =>
            clear q2
            go_wp2_with fail
            with_reducible refine (q1.out _).mono ?_
            rintro e w2 ⟨rfl, rfl⟩
            go_wp2_with fail
            go_ret
            exact ⟨by rw [hex.out (by rw [hok.out]; simp_all)]; rfl, HB1.out⟩
      · obtain rfl : ov = false := by simpa using hov
        clear hov
        cases kb with
        | false =>
          clear q2
          go_wp2_with fail
          with_reducible refine (q1.out _).mono ?_
          rintro e w2 ⟨rfl, rfl⟩
          go_wp2_with fail
          go_ret
          exact ⟨by rw [hex.out (by rw [hok.out]; rfl)]; rfl, HB1.out⟩
        | true =>
          have hlook := hS1.out.look hr2.out HZ.out
          cases z with
          | true =>
            clear q2
            go_wp2_with fail
            with_reducible refine (q1.out _).mono ?_
            rintro e w2 ⟨rfl, rfl⟩
            go_wp2_with fail
            go_ret
            exact ⟨by rw [hex.out (by rw [hok.out]; simp)]; rfl, HB1.out⟩
          | false =>
            by_cases hlast : k + 1 < l.length
            · have t9 : decide ((k : Int) < (l.length : Int) - 1) = true := decide_eq_true (by omega)
              rw [decide_eq_true hlast] at hok
              cases hb with
              | false =>
                go_wp2_with fail
                with_reducible refine (q1.out _).mono ?_
                rintro e w2 ⟨rfl, rfl⟩
                go_wp2_with fail
                with_reducible refine (q2.out _ hT1).mono ?_
                rintro e w3 ⟨rfl, hb3⟩
                have HB3 := Lib.hid (HB1.out.trans (hb3.mono HB1.out.size))
                clear hb3
                go_wp2_with fail
                go_ret
                exact ⟨by rw [hex.out (by rw [hok.out]; simp)]; rfl, HB3.out⟩
              | true =>
                go_wp2_with fail
                with_reducible refine (q1.out _).mono ?_
                rintro e w2 ⟨rfl, rfl⟩
                go_wp2_with fail
                with_reducible refine (q2.out _ hT1).mono ?_
                rintro e w3 ⟨rfl, hb3⟩
                have HB3 := Lib.hid (HB1.out.trans (hb3.mono HB1.out.size))
                have hS3 := Lib.hid (hS1.out.call hb3)
                have c0 := cells_of_blk (blk_call hblk.out hb3) 0 _ rfl
                clear hb3
                go_wp2_with (at_mapUpdate; refine wpList_update_seen _ rfl _ _ _ rfl hS3 (by omega) r hr2.out rfl rfl rfl ?_; intro w4 hS4 hg4)
                have HB4 := Lib.hid (HB3.out.trans (below_grownR (B := w.heap.size) hg4.out (Nat.le_refl _) hS3.out.lt))
                go_roundw
                case rel => exact ⟨k + 1, by go_num, by show _ ≤ _; omega, by rw [htk.out, List.map_append]; exact hS4.out, hgo.out (by rw [hok.out]; simp), HB4.out⟩
                case measure => simp [intOf]; omega
            · have t9 : decide ((k : Int) < (l.length : Int) - 1) = false := decide_eq_false (by omega)
              rw [decide_eq_false hlast] at hok
              have c0 := cells_of_blk hblk.out 0 _ rfl
              go_wp2_with fail
              with_reducible refine (q1.out _).mono ?_
              rintro e w2 ⟨rfl, rfl⟩
              go_wp2_with (at_mapUpdate; refine wpList_update_seen _ rfl _ _ _ rfl hS1 (by omega) r hr2.out rfl rfl rfl ?_; intro w4 hS4 hg4)
              have HB4 := Lib.hid (HB1.out.trans (below_grownR (B := w.heap.size) hg4.out (Nat.le_refl _) hS1.out.lt))
              go_roundw
              case rel => exact ⟨k + 1, by go_num, by show _ ≤ _; omega, by rw [htk.out, List.map_append]; exact hS4.out, hgo.out (by rw [hok.out]; simp), HB4.out⟩
              case measure => simp [intOf]; omega
    · have hkk : k = l.length := by have := hk.out; omega
      subst hkk
      go_wp2_with fail
      go_ret
      exact ⟨by rw [show mayS l = true from hM.out]; rfl, hB.out⟩
end Go.Proofs.YteeemoknbnlopaaDoor
