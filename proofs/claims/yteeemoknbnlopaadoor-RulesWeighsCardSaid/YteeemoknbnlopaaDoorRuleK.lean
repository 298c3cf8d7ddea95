/- The reference's May. -/
import Derived.Test.YteeemoknbnlopaaDoorRuleJ
import Derived.Test.YteeemoknbnlopaaDoorRuleF
namespace Go.Proofs.YteeemoknbnlopaaDoor
open Go Go.RowKit
set_option linter.unusedVariables false

theorem any_take_step {l : List Stp} {j : Nat} {s : Stp} {r : Int} (h : l[j]? = some s) (ha : ((l.take j).any fun t => t.rule == r) = false) (hne : (s.rule == r) = false) : ((l.take (j + 1)).any fun t => t.rule == r) = false := by
  obtain ⟨hj, rfl⟩ := List.getElem?_eq_some_iff.1 h
  rw [List.take_succ_eq_append_getElem hj, List.any_append, ha]
  simpa using hne
theorem any_take_hit {l : List Stp} {j k : Nat} {s : Stp} {r : Int} (h : l[j]? = some s) (hjk : j < k) (he : (s.rule == r) = true) : ((l.take k).any fun t => t.rule == r) = true := by
  obtain ⟨hj, rfl⟩ := List.getElem?_eq_some_iff.1 h
  refine List.any_eq_true.2 ⟨l[j], ?_, he⟩
  exact List.mem_take_iff_getElem.2 ⟨j, by omega, rfl⟩

set_option maxRecDepth 100000 in
set_option maxHeartbeats 4000000 in
theorem rMay_any (v : Value) (l : List Stp) (w : World) (hv : Hid (StepsAt w v l)) (hl : l.length ≤ 1000) :
    Calls Tryd.prog 29 #[v] w fun e w' => e = .returned (.bool (mayS l)) ∧ Below w.heap.size w w' := by
  have qH := Lib.hid (fun s w => rHolds_any s w)
  obtain ⟨A, c, rfl, _⟩ := hv.out
  go_enter Tryd.func29, Tryd.ntmps29
  go_wp2_with fail
  go_loopw [3] (fun s3 wr => ∃ (k : Nat), s3 = .int .i64 k ∧ Hid (k ≤ l.length) ∧ Hid (mayB l k = true) ∧ Hid (Below w.heap.size w wr)) (fun s3 _ => l.length - (intOf s3).toNat)
  case atStart => exact ⟨0, rfl, Nat.zero_le _, rfl, Below.refl _ _⟩
  case round =>
    obtain ⟨k, rfl, hk, hM, hB⟩ := hrel
    by_cases hkl : k < l.length
    · obtain ⟨A', c', hA', hci⟩ := (hv.out.call hB.out)
      cases hA'
      have hge : l[k]? = some l[k] := List.getElem?_eq_getElem hkl
      obtain ⟨hf, b, o, rfl, hbl, h0, h1, h2, h3⟩ := hci k _ hge
      have HG := Lib.hid hge
      clear hci hge
      generalize l[k] = s at *
      obtain ⟨r, x, y, ov⟩ := s
      have h0 : wr.cell? ⟨b, o + k * 4, none⟩ = some (.int .i64 r) := h0
      have h1 : wr.cell? ⟨b, o + k * 4 + 1, none⟩ = some (.int .i64 x) := h1
      have h2 : wr.cell? ⟨b, o + k * 4 + 2, none⟩ = some (.int .i64 y) := h2
      have h3 : wr.cell? ⟨b, o + k * 4 + 3, none⟩ = some (.bool ov) := h3
      have q2 : Hid (∀ w, Calls Tryd.prog 24 #[.agg #[.int .i64 r, .int .i64 x, .int .i64 y, .bool ov]] w fun e w' => e = .returned (.bool (Stp.mk r x y ov).holds) ∧ Below w.heap.size w w') := fun w => qH.out ⟨r, x, y, ov⟩ w
      have hok : Hid (okB l k ⟨r, x, y, ov⟩ = (decide (0 < r ∧ r < 24) && !(ov && (x != 0 || y != 0)) && !((l.take k).any fun t => t.rule == r) && (!decide (k + 1 < l.length) || (Stp.mk r x y ov).holds))) := rfl
      obtain ⟨hb, hhb⟩ : ∃ hb, (Stp.mk r x y ov).holds = hb := ⟨_, rfl⟩
      rw [hhb] at q2 hok
      have HB1 := Lib.hid (below_alloc hB.out hB.out.size (.cells #[.int .i64 r, .int .i64 x, .int .i64 y, .bool ov] 39))
      have hblk : Hid ((wr.alloc (.cells #[.int .i64 r, .int .i64 x, .int .i64 y, .bool ov] 39)).heap[wr.heap.size]? = some (.cells #[.int .i64 r, .int .i64 x, .int .i64 y, .bool ov] 39 (0, 0))) := heap_new _ _
      have hv1 := Lib.hid (hv.out.call HB1.out)
      have hex : Hid (okB l k ⟨r, x, y, ov⟩ = false → mayS l = false) := fun h => mayS_false HG.out h
      have hgo : Hid (okB l k ⟨r, x, y, ov⟩ = true → mayB l (k + 1) = true) := fun h => mayB_step HG.out hM.out h
      clear hhb qH hf HG hM
      by_cases hn1 : r < 1
      · have t1 : decide (r < 1) = true := decide_eq_true hn1
        have hkn : Hid (decide (0 < r ∧ r < 24) = false) := decide_eq_false (by omega)
        clear q2
        go_wp2_with fail
        go_ret
        exact ⟨by rw [hex.out (by rw [hok.out, hkn.out]; rfl)]; rfl, HB1.out⟩
      by_cases hn2 : 23 < r
      · have t1 : decide (r < 1) = false := decide_eq_false hn1
        have t2 : decide (23 < r) = true := decide_eq_true hn2
        have hkn : Hid (decide (0 < r ∧ r < 24) = false) := decide_eq_false (by omega)
        clear q2
        go_wp2_with fail
        go_ret
        exact ⟨by rw [hex.out (by rw [hok.out, hkn.out]; rfl)]; rfl, HB1.out⟩
      have t1 : decide (r < 1) = false := decide_eq_false hn1
      have t2 : decide (23 < r) = false := decide_eq_false hn2
      have hkn : Hid (decide (0 < r ∧ r < 24) = true) := decide_eq_true (by omega)
      clear hn1 hn2
      by_cases hbare : ov = true ∧ ¬ (x = 0 ∧ y = 0)
      · obtain ⟨rfl, hxy⟩ := hbare
        by_cases hx : x = 0
        · have t3 : (y != 0) = true := by simp; omega
          subst hx
          clear q2 hxy
          go_wp2_with fail
          go_ret
          exact ⟨by rw [hex.out (by rw [hok.out, t3]; simp)]; rfl, HB1.out⟩
        · have t3 : (x != 0) = true := by simpa using hx
          clear q2 hxy hx
          go_wp2_with fail
          go_ret
          exact ⟨by rw [hex.out (by rw [hok.out, t3]; simp)]; rfl, HB1.out⟩
      obtain ⟨w3, hw3⟩ : ∃ w3, wr.alloc (.cells #[.int .i64 r, .int .i64 x, .int .i64 y, .bool ov] 39) = w3 := ⟨_, rfl⟩
      have HW3 := Lib.hid hw3
      clear hw3
      have hov : ov = false ∨ (ov = true ∧ x = 0 ∧ y = 0) := by
        cases ov with
        | false => exact Or.inl rfl
        | true => exact Or.inr ⟨rfl, Classical.byContradiction fun h => hbare ⟨rfl, h⟩⟩
      clear hbare
      rcases hov with rfl | ⟨rfl, rfl, rfl⟩
      all_goals
        by_cases hlast : k + 1 < l.length
        · have t9 : decide ((k : Int) + 1 < (l.length : Int)) = true := decide_eq_true (by omega)
          rw [decide_eq_true hlast] at hok
          cases hb with
          | false =>
            clear HW3 w3
            go_wp2_with fail
            with_reducible refine (q2.out _).mono ?_
            rintro e w3 ⟨rfl, hb3⟩
            have HB3 := Lib.hid (HB1.out.trans (hb3.mono HB1.out.size))
            clear hb3
            go_wp2_with fail
            go_ret
            exact ⟨by rw [hex.out (by rw [hok.out]; simp)]; rfl, HB3.out⟩
          | true =>
            clear HW3 w3
            go_wp2_with fail
            with_reducible refine (q2.out _).mono ?_
            rintro e w3 ⟨rfl, hb3⟩
            have HB3 := Lib.hid (HB1.out.trans (hb3.mono HB1.out.size))
            have hblk3 := Lib.hid (blk_call hblk.out hb3)
            have hv3 := Lib.hid (hv1.out.call hb3)
            clear hb3 hblk hv1 HB1 q2 h0 h1 h2 h3
            generalize wr.heap.size = G at *
            go_wp2_with fail
            go_loopw [5] (fun s5 wq => ∃ (j : Nat), s5 = .int .i64 j ∧ Hid (j ≤ k) ∧ Hid (((l.take j).any fun t => t.rule == r) = false) ∧ Hid (wq.heap[G]? = w3.heap[G]?) ∧ Hid (StepsAt wq (.slice (some ⟨b, o, none⟩) l.length c) l) ∧ Hid (Below w.heap.size w wq)) (fun s5 _ => k - (intOf s5).toNat)
            case atStart => exact ⟨0, rfl, Nat.zero_le _, rfl, rfl, hv3.out, HB3.out⟩
            case round =>
              obtain ⟨j, rfl, hj, hJ, hkq, hvq, hBq⟩ := hrel
              have c0 := cells_of_blk (hkq.out.trans hblk3.out) 0 _ rfl
              by_cases hjk : j < k
              · obtain ⟨A', c', hA', hci⟩ := hvq.out
                cases hA'
                have hge : l[j]? = some l[j] := List.getElem?_eq_getElem (by omega)
                obtain ⟨_, b', o', he', hbl', k0, _⟩ := hci j _ hge
                cases he'
                have HG := Lib.hid hge
                clear hci hge
                generalize l[j] = s at *
                obtain ⟨r', x', y', ov'⟩ := s
                have k0 : wr.cell? ⟨b, o + j * 4, none⟩ = some (.int .i64 r') := k0
                by_cases hrr : r' = r
                · have t5 : (r' == r) = true := beq_iff_eq.2 hrr
                  have hit := Lib.hid (any_take_hit HG.out hjk t5)
                  clear hrr
                  go_wp2_with fail
                  go_region
                  go_wp2_with fail
                  go_ret
                  exact ⟨by rw [hex.out (by rw [hok.out, hit.out]; simp)]; rfl, hBq.out.drew⟩
                · have t5 : (r' == r) = false := beq_eq_false_iff_ne.2 hrr
                  have hst := Lib.hid (any_take_step HG.out hJ.out t5)
                  clear hrr
                  go_wp2_with fail
                  go_region
                  go_wp2_with fail
                  go_roundw
                  case rel => exact ⟨j + 1, by go_num, by show _ ≤ _; omega, hst.out, hkq.out, hvq.out.call ((Below.refl _ _).drew), hBq.out.drew⟩
                  case measure => simp [intOf]; omega
              · have hjj : j = k := by have := hj.out; omega
                subst hjj
                have hokt : Hid (mayB l (j + 1) = true) := hgo.out (by rw [hok.out, hJ.out, hkn.out]; simp)
                go_wp2_with fail
                go_roundw
                case rel => exact ⟨j + 1, by go_num, by show _ ≤ _; omega, hokt.out, hBq.out⟩
                case measure => simp [intOf]; omega
        · have t9 : decide ((k : Int) + 1 < (l.length : Int)) = false := decide_eq_false (by omega)
          rw [decide_eq_false hlast] at hok
          have hblk3 := hblk
          have hv3 := hv1
          have HB3 := HB1
          clear q2 h0 h1 h2 h3 hblk hv1 HB1
          go_wp2_with fail
          rw [HW3.out] at hblk3 hv3 HB3 ⊢
          clear HW3
          generalize wr.heap.size = G at *
          go_loopw [5] (fun s5 wq => ∃ (j : Nat), s5 = .int .i64 j ∧ Hid (j ≤ k) ∧ Hid (((l.take j).any fun t => t.rule == r) = false) ∧ Hid (wq.heap[G]? = w3.heap[G]?) ∧ Hid (StepsAt wq (.slice (some ⟨b, o, none⟩) l.length c) l) ∧ Hid (Below w.heap.size w wq)) (fun s5 _ => k - (intOf s5).toNat)
          case atStart => exact ⟨0, rfl, Nat.zero_le _, rfl, rfl, hv3.out, HB3.out⟩
          case round =>
            obtain ⟨j, rfl, hj, hJ, hkq, hvq, hBq⟩ := hrel
            have c0 := cells_of_blk (hkq.out.trans hblk3.out) 0 _ rfl
            by_cases hjk : j < k
            · obtain ⟨A', c', hA', hci⟩ := hvq.out
              cases hA'
              have hge : l[j]? = some l[j] := List.getElem?_eq_getElem (by omega)
              obtain ⟨_, b', o', he', hbl', k0, _⟩ := hci j _ hge
              cases he'
              have HG := Lib.hid hge
              clear hci hge
              generalize l[j] = s at *
              obtain ⟨r', x', y', ov'⟩ := s
              have k0 : wr.cell? ⟨b, o + j * 4, none⟩ = some (.int .i64 r') := k0
              by_cases hrr : r' = r
              · have t5 : (r' == r) = true := beq_iff_eq.2 hrr
                have hit := Lib.hid (any_take_hit HG.out hjk t5)
                clear hrr
                go_wp2_with fail
                go_region
                go_wp2_with fail
                go_ret
                exact ⟨by rw [hex.out (by rw [hok.out, hit.out]; simp)]; rfl, hBq.out.drew⟩
              · have t5 : (r' == r) = false := beq_eq_false_iff_ne.2 hrr
                have hst := Lib.hid (any_take_step HG.out hJ.out t5)
                clear hrr
                go_wp2_with fail
                go_region
                go_wp2_with fail
                go_roundw
                case rel => exact ⟨j + 1, by go_num, by show _ ≤ _; omega, hst.out, hkq.out, hvq.out.call ((Below.refl _ _).drew), hBq.out.drew⟩
                case measure => simp [intOf]; omega
            · have hjj : j = k := by have := hj.out; omega
              subst hjj
              have hokt : Hid (mayB l (j + 1) = true) := hgo.out (by rw [hok.out, hJ.out, hkn.out]; simp)
              go_wp2_with fail
              go_roundw
              case rel => exact ⟨j + 1, by go_num, by show _ ≤ _; omega, hokt.out, hBq.out⟩
              case measure => simp [intOf]; omega
    · have hkk : k = l.length := by have := hk.out; omega
      subst hkk
      go_wp2_with fail
      go_ret
      exact ⟨by rw [show mayS l = true from hM.out]; rfl, hB.out⟩
end Go.Proofs.YteeemoknbnlopaaDoor
