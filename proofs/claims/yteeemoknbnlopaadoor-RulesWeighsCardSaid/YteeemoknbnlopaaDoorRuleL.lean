/- The reference's Weigh. -/
import Derived.Test.YteeemoknbnlopaaDoorRuleJ
import Derived.Test.YteeemoknbnlopaaDoorRuleF
namespace Go.Proofs.YteeemoknbnlopaaDoor
open Go Go.RowKit
set_option linter.unusedVariables false

set_option maxRecDepth 100000 in
set_option maxHeartbeats 4000000 in
theorem rWeigh_any (v : Value) (l : List Stp) (w : World) (hv : Hid (StepsAt w v l)) (hl : l.length ≤ 1000) :
    Calls Tryd.prog 30 #[v] w fun e w' => e = .returned (.agg #[.int .i64 (goW l 0).1, .int .i64 (goW l 0).2]) ∧ Below w.heap.size w w' := by
  have qH := Lib.hid (fun s w => rHolds_any s w)
  have qC := Lib.hid (fun n w => Table_any n w)
  have hb0 := (Below.refl w.heap.size w).alloc (Nat.le_refl _) (.cells #[.int .i64 0, .int .i64 0] 49)
  have hblk0 : Hid (VerBlk (w.alloc (.cells #[.int .i64 0, .int .i64 0] 49)) w.heap.size 0 0) := heap_new _ _
  have HB0 := Lib.hid hb0
  clear hb0
  obtain ⟨A, c, rfl, _⟩ := hv.out
  go_enter Tryd.func30, Tryd.ntmps30
  go_wp2_with fail
  go_loopw [3, 4] (fun s3 s4 wr => ∃ (k : Nat) (need : Int), s3 = .int .i64 need ∧ s4 = .int .i64 k ∧ Hid (k ≤ l.length) ∧ Hid (VerBlk wr w.heap.size 0 0) ∧ Hid (goW (l.drop k) need = goW l 0) ∧ Hid (Below w.heap.size w wr)) (fun _ s4 _ => l.length - (intOf s4).toNat)
  case atStart => exact ⟨0, 0, rfl, rfl, Nat.zero_le _, hblk0.out, rfl, HB0.out⟩
  case round =>
    obtain ⟨k, need, rfl, rfl, hk, hR, hW, hB⟩ := hrel
    clear hblk0 HB0
    by_cases hkl : k < l.length
    · obtain ⟨A', c', hA', hci⟩ := (hv.out.call hB.out)
      cases hA'
      have hge : l[k]? = some l[k] := List.getElem?_eq_getElem hkl
      obtain ⟨hf, b, o, rfl, hbl, h0, h1, h2, h3⟩ := hci k _ hge
      have hst := Lib.hid (goW_drop hge need)
      clear hci hge
      generalize l[k] = s at *
      obtain ⟨r, x, y, ov⟩ := s
      have h0 : wr.cell? ⟨b, o + k * 4, none⟩ = some (.int .i64 r) := h0
      have h1 : wr.cell? ⟨b, o + k * 4 + 1, none⟩ = some (.int .i64 x) := h1
      have h2 : wr.cell? ⟨b, o + k * 4 + 2, none⟩ = some (.int .i64 y) := h2
      have h3 : wr.cell? ⟨b, o + k * 4 + 3, none⟩ = some (.bool ov) := h3
      have q2 : Hid (∀ w, Calls Tryd.prog 24 #[.agg #[.int .i64 r, .int .i64 x, .int .i64 y, .bool ov]] w fun e w' => e = .returned (.bool (Stp.mk r x y ov).holds) ∧ Below w.heap.size w w') := fun w => qH.out ⟨r, x, y, ov⟩ w
      clear qH hf
      cases ov with
      | true =>
        have hs1 : Hid (goW l 0 = (12, 0)) := hW.out.symm.trans (hst.out.trans (if_pos rfl))
        have e0 := hR.out.c0; have e1 := hR.out.c1; have z0 := hR.out.z
        clear hst q2
        go_wp2_with fail
        have hk := (hR.out.s0 (12)).s1 (0)
        have HB9 := Lib.hid (below_set2 hB.out (Nat.le_refl _) (.int .i64 (12)) (.int .i64 (0)))
        generalize (wr.setCell ⟨w.heap.size, 0, none⟩ (.int .i64 (12))).setCell ⟨w.heap.size, 1, none⟩ (.int .i64 (0)) = w9 at *
        clear e0 e1 z0
        have e0 := hk.c0; have e1 := hk.c1
        rw [hs1.out]
        refine bodyPost_ret (v := .agg #[.int .i64 (12), .int .i64 (0)]) ?_ rfl ⟨rfl, HB9.out⟩
        rw [results_cell_one rfl]; go_simp
      | false =>
        obtain ⟨hb, hhb⟩ : ∃ hb, (Stp.mk r x y false).holds = hb := ⟨_, rfl⟩
        rw [hhb] at q2
        have hst2 : Hid (goW l 0 = if hb then (if r = 20 then goW (l.drop (k + 1)) x else goW (l.drop (k + 1)) need) else (((codeS r : Nat) : Int), 0)) := by
          show _ = _
          rw [← hW.out, hst.out, if_neg (by simp), hhb]
        clear hhb hst hW
        cases hb with
        | false =>
          have hs1 : Hid (goW l 0 = (((codeS r : Nat) : Int), 0)) := hst2.out.trans (if_neg (by simp))
          have hfl := row_f2 ⟨(Rule.name (numR r)).toArray⟩ (relS r) (codeS r)
          clear hst2
          go_wp2_with fail
          with_reducible refine (q2.out _).mono ?_
          rintro e w3 ⟨rfl, hb3⟩
          have HB3 := Lib.hid (hB.out.trans (hb3.mono hB.out.size))
          have hR3 := Lib.hid (hR.out.call hb3)
          have d0 := (hb3.cell (p := ⟨b, o + k * 4, none⟩) hbl).trans h0
          clear hb3 h0 h1 h2 h3
          go_wp2_with fail
          with_reducible refine (qC.out r _).mono ?_
          rintro e w4 ⟨rfl, hb4⟩
          have HB4 := Lib.hid (HB3.out.trans (hb4.mono HB3.out.size))
          have hR4 := Lib.hid (hR3.out.call hb4)
          clear hb4 d0
          generalize ((codeS r : Nat) : Int) = cd at *
          have e0 := hR4.out.c0; have e1 := hR4.out.c1; have z0 := hR4.out.z
          go_wp2_with fail
          have hk := (hR4.out.s0 (cd)).s1 (0)
          have HB9 := Lib.hid (below_set2 HB4.out (Nat.le_refl _) (.int .i64 (cd)) (.int .i64 (0)))
          generalize (w4.setCell ⟨w.heap.size, 0, none⟩ (.int .i64 (cd))).setCell ⟨w.heap.size, 1, none⟩ (.int .i64 (0)) = w9 at *
          clear e0 e1 z0
          have e0 := hk.c0; have e1 := hk.c1
          rw [hs1.out]
          refine bodyPost_ret (v := .agg #[.int .i64 (cd), .int .i64 (0)]) ?_ rfl ⟨rfl, HB9.out⟩
          rw [results_cell_one rfl]; go_simp
        | true =>
          have hs1 := Lib.hid (hst2.out.trans (if_pos rfl))
          clear hst2
          by_cases h20 : r = 20
          · have hs2 : Hid (goW (l.drop (k + 1)) x = goW l 0) := (hs1.out.trans (if_pos h20)).symm
            subst h20
            go_wp2_with fail
            with_reducible refine (q2.out _).mono ?_
            rintro e w3 ⟨rfl, hb3⟩
            have HB3 := Lib.hid (hB.out.trans (hb3.mono hB.out.size))
            have hR3 := Lib.hid (hR.out.call hb3)
            have d0 := (hb3.cell (p := ⟨b, o + k * 4, none⟩) hbl).trans h0
            have d1 := (hb3.cell (p := ⟨b, o + k * 4 + 1, none⟩) hbl).trans h1
            clear hb3 h0 h1 h2 h3
            go_wp2_with fail
            go_roundw
            case rel => exact ⟨k + 1, x, rfl, by go_num, by show _ ≤ _; omega, hR3.out, hs2.out, HB3.out⟩
            case measure => simp [intOf]; omega
          · have hs2 : Hid (goW (l.drop (k + 1)) need = goW l 0) := (hs1.out.trans (if_neg h20)).symm
            have t2 : (r == 20) = false := beq_eq_false_iff_ne.2 h20
            clear h20 hs1
            go_wp2_with fail
            with_reducible refine (q2.out _).mono ?_
            rintro e w3 ⟨rfl, hb3⟩
            have HB3 := Lib.hid (hB.out.trans (hb3.mono hB.out.size))
            have hR3 := Lib.hid (hR.out.call hb3)
            have d0 := (hb3.cell (p := ⟨b, o + k * 4, none⟩) hbl).trans h0
            clear hb3 h0 h1 h2 h3
            go_wp2_with fail
            go_roundw
            case rel => exact ⟨k + 1, need, rfl, by go_num, by show _ ≤ _; omega, hR3.out, hs2.out, HB3.out⟩
            case measure => simp [intOf]; omega
    · have hkk : k = l.length := by have := hk.out; omega
      subst hkk
      have hs1 : Hid (goW l 0 = (0, need)) := by
        have := hW.out
        rw [List.drop_length] at this
        exact this.symm
      have e0 := hR.out.c0; have e1 := hR.out.c1; have z0 := hR.out.z
      go_wp2_with fail
      have hk := (hR.out.s0 (0)).s1 (need)
      have HB9 := Lib.hid (below_set2 hB.out (Nat.le_refl _) (.int .i64 (0)) (.int .i64 (need)))
      generalize (wr.setCell ⟨w.heap.size, 0, none⟩ (.int .i64 (0))).setCell ⟨w.heap.size, 1, none⟩ (.int .i64 (need)) = w9 at *
      clear e0 e1 z0
      have e0 := hk.c0; have e1 := hk.c1
      rw [hs1.out]
      refine bodyPost_ret (v := .agg #[.int .i64 (0), .int .i64 (need)]) ?_ rfl ⟨rfl, HB9.out⟩
      rw [results_cell_one rfl]; go_simp
end Go.Proofs.YteeemoknbnlopaaDoor
