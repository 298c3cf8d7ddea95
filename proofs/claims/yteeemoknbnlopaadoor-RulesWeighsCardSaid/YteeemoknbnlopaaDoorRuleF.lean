/- rules.Weigh. -/
import Derived.Test.YteeemoknbnlopaaDoorRuleE
namespace Go.Proofs.YteeemoknbnlopaaDoor
open Go Go.RowKit Go.Maps Go.WideMaps Go.MapKept
set_option linter.unusedVariables false

def VerBlk (w : World) (g : Nat) (c n : Int) : Prop := w.heap[g]? = some (.cells #[.int .i64 c, .int .i64 n] 49 (0, 0))
theorem VerBlk.call {w w' : World} {g : Nat} {c n : Int} (h : VerBlk w g c n) (hb : Below w.heap.size w w') : VerBlk w' g c n := blk_call h hb
theorem VerBlk.old {w : World} {g : Nat} {c n : Int} (h : VerBlk w g c n) (o : Obj) : VerBlk (w.alloc o) g c n := blk_old h o
theorem VerBlk.lt {w : World} {g : Nat} {c n : Int} (h : VerBlk w g c n) : g < w.heap.size := (Array.getElem?_eq_some_iff.1 h).1
theorem VerBlk.c0 {w : World} {g : Nat} {c n : Int} (h : VerBlk w g c n) : w.cell? ⟨g, 0, none⟩ = some (.int .i64 c) := cells_of_blk h 0 _ rfl
theorem VerBlk.c1 {w : World} {g : Nat} {c n : Int} (h : VerBlk w g c n) : w.cell? ⟨g, 1, none⟩ = some (.int .i64 n) := cells_of_blk h 1 _ rfl
theorem VerBlk.z {w : World} {g : Nat} {c n : Int} (h : VerBlk w g c n) (i : Nat) : w.frozen? ⟨g, i, none⟩ = false := free_of_blk h i
theorem VerBlk.s0 {w : World} {g : Nat} {c n : Int} (h : VerBlk w g c n) (d : Int) : VerBlk (w.setCell ⟨g, 0, none⟩ (.int .i64 d)) g d n := set_blk h 0 _
theorem VerBlk.s1 {w : World} {g : Nat} {c n : Int} (h : VerBlk w g c n) (d : Int) : VerBlk (w.setCell ⟨g, 1, none⟩ (.int .i64 d)) g c d := set_blk h 1 _
theorem VerBlk.oth {w : World} {g q : Nat} {c n : Int} (h : VerBlk w g c n) (i : Nat) (u : Value) (hne : g ≠ q) : VerBlk (w.setCell ⟨q, i, none⟩ u) g c n := set_oth h i u hne

theorem below_set2 {w w1 : World} {g : Nat} {B : Nat} (h : Below B w w1) (hg : B ≤ g) (u v : Value) : Below B w ((w1.setCell ⟨g, 0, none⟩ u).setCell ⟨g, 1, none⟩ v) := (h.setCell hg u).setCell hg v

set_option maxRecDepth 100000 in
set_option maxHeartbeats 4000000 in
theorem Weigh_any (v : Value) (l : List Stp) (w : World) (hT : Hid (Law16 w)) (hv : Hid (StepsAt w v l)) (hl : l.length ≤ 1000) :
    Calls Tryd.prog 27 #[v] w fun e w' => e = .returned (if mayS l then .tuple #[.agg #[.int .i64 (goW l 0).1, .int .i64 (goW l 0).2], .int .i64 0] else .tuple #[.agg #[.int .i64 0, .int .i64 0], .int .i64 3]) ∧ Below w.heap.size w w' := by
  have qM : Hid (∀ w, Hid (Law16 w) → Hid (StepsAt w v l) → Calls Tryd.prog 28 #[v] w fun e w' => e = .returned (.bool (mayS l)) ∧ Below w.heap.size w w') := fun w hT hv => May_any v l w hT hv hl
  have qH := Lib.hid (fun s hs w h => Holds_any s hs w h)
  have qC := Lib.hid (fun n hn w h => Code_any n hn w h)
  have hb0 := (Below.refl w.heap.size w).alloc (Nat.le_refl _) (.cells #[.int .i64 0, .int .i64 0] 49)
  have hT0 := Lib.hid (hT.out.call hb0)
  have hv0 := Lib.hid (hv.out.call hb0)
  have hblk0 : Hid (VerBlk (w.alloc (.cells #[.int .i64 0, .int .i64 0] 49)) w.heap.size 0 0) := heap_new _ _
  have HB0 := Lib.hid hb0
  clear hb0
  obtain ⟨A, c, rfl, _⟩ := hv.out
  obtain ⟨m, hm⟩ : ∃ m, mayS l = m := ⟨_, rfl⟩
  rw [hm] at qM ⊢
  clear hm
  cases m with
  | false =>
    rw [if_neg (by simp)]
    go_enter Tryd.func27, Tryd.ntmps27
    go_wp2_with fail
    with_reducible refine (qM.out _ hT0 hv0).mono ?_
    rintro e w1 ⟨rfl, hb1⟩
    have HB1 := Lib.hid (HB0.out.trans (hb1.mono HB0.out.size))
    have hblk1 := Lib.hid (hblk0.out.call hb1)
    clear hb1 hT0 hv0 hblk0 HB0
    have e0 := hblk1.out.c0; have e1 := hblk1.out.c1; have z0 := hblk1.out.z
    go_wp2_with fail
    have hk := (hblk1.out.s0 0).s1 0
    have HB2 := Lib.hid (below_set2 HB1.out (Nat.le_refl _) (.int .i64 0) (.int .i64 0))
    generalize (w1.setCell ⟨w.heap.size, 0, none⟩ (.int .i64 0)).setCell ⟨w.heap.size, 1, none⟩ (.int .i64 0) = w9 at *
    clear e0 e1 z0
    have e0 := hk.c0; have e1 := hk.c1
    refine bodyPost_ret (v := .tuple #[.agg #[.int .i64 0, .int .i64 0], .int .i64 3]) ?_ rfl ⟨rfl, HB2.out⟩
    rw [results_cell_tmp rfl]; go_simp
  | true =>
    rw [if_pos rfl]
    go_enter Tryd.func27, Tryd.ntmps27
    go_wp2_with fail
    with_reducible refine (qM.out _ hT0 hv0).mono ?_
    rintro e w1 ⟨rfl, hb1⟩
    have HB1 := Lib.hid (HB0.out.trans (hb1.mono HB0.out.size))
    have hblk1 := Lib.hid (hblk0.out.call hb1)
    have hG0 : w.heap.size < w1.heap.size := hblk1.out.lt
    have hk2 : Hid (VerBlk (w1.alloc (.cells #[.int .i64 0, .int .i64 0] 49)) w1.heap.size 0 0) := heap_new _ _
    have hk1 := Lib.hid (hblk1.out.old (.cells #[.int .i64 0, .int .i64 0] 49))
    have HB2 := Lib.hid (below_alloc HB1.out HB1.out.size (.cells #[.int .i64 0, .int .i64 0] 49))
    clear hb1 hT0 hv0 hblk0 HB0 hblk1 HB1 qM
    go_wp2_with fail
    go_loopw [13] (fun s13 wr => ∃ (k : Nat) (need : Int), s13 = .int .i64 k ∧ Hid (k ≤ l.length) ∧ Hid (I64 need) ∧ Hid (VerBlk wr w.heap.size 0 0) ∧ Hid (VerBlk wr w1.heap.size 0 need) ∧ Hid (goW (l.drop k) need = goW l 0) ∧ Hid (Below w.heap.size w wr)) (fun s13 _ => l.length - (intOf s13).toNat)
    case atStart => exact ⟨0, 0, rfl, Nat.zero_le _, by show I64 0; unfold I64; omega, hk1.out, hk2.out, rfl, HB2.out⟩
    case round =>
      obtain ⟨k, need, rfl, hk, hn, hR, hV, hW, hB⟩ := hrel
      generalize hG1 : w1.heap.size = G1 at *
      clear hk1 hk2 HB2 hG1
      by_cases hkl : k < l.length
      · obtain ⟨A', c', hA', hci⟩ := (hv.out.call hB.out)
        cases hA'
        have hge : l[k]? = some l[k] := List.getElem?_eq_getElem hkl
        obtain ⟨hf, b, o, rfl, hbl, h0, h1, h2, h3⟩ := hci k _ hge
        have hst := Lib.hid (goW_drop hge need)
        clear hci hge
        generalize l[k] = s at *
        obtain ⟨r, x, y, ov⟩ := s
        have h0 : wr.cell? ⟨b, o + k * 4, none⟩ = some (.int .i64 r) := h0
        have h1 : wr.cell? ⟨b, o + k * 4 + 1, none⟩ = some (.int .i64 x) := h1
        have h2 : wr.cell? ⟨b, o + k * 4 + 2, none⟩ = some (.int .i64 y) := h2
        have h3 : wr.cell? ⟨b, o + k * 4 + 3, none⟩ = some (.bool ov) := h3
        have hr2 : Hid (I64 r) := hf.1
        have hx2 : Hid (I64 x) := hf.2.1
        have q2 : Hid (∀ w, Hid (Law16 w) → Calls Tryd.prog 23 #[.agg #[.int .i64 r, .int .i64 x, .int .i64 y, .bool ov]] w fun e w' => e = .returned (.bool (Stp.mk r x y ov).holds) ∧ Below w.heap.size w w') := fun w h => qH.out ⟨r, x, y, ov⟩ hf w h
        have HB1 := Lib.hid (below_alloc hB.out hB.out.size (.cells #[.int .i64 r, .int .i64 x, .int .i64 y, .bool ov] 39))
        have hblk : Hid ((wr.alloc (.cells #[.int .i64 r, .int .i64 x, .int .i64 y, .bool ov] 39)).heap[wr.heap.size]? = some (.cells #[.int .i64 r, .int .i64 x, .int .i64 y, .bool ov] 39 (0, 0))) := heap_new _ _
        have hT1 := Lib.hid (hT.out.call HB1.out)
        have hR1 := Lib.hid (hR.out.old (.cells #[.int .i64 r, .int .i64 x, .int .i64 y, .bool ov] 39))
        have hV1 := Lib.hid (hV.out.old (.cells #[.int .i64 r, .int .i64 x, .int .i64 y, .bool ov] 39))
        clear qH hf hR hV
        cases ov with
        | true =>
          have hs1 : Hid (goW l 0 = (12, 0)) := hW.out.symm.trans (hst.out.trans (if_pos rfl))
          have e0 := hR1.out.c0; have e1 := hR1.out.c1; have z0 := hR1.out.z
          clear hst q2
          go_wp2_with fail
          have hk := (hR1.out.s0 (12)).s1 (0)
          have HB9 := Lib.hid (below_set2 HB1.out (Nat.le_refl _) (.int .i64 (12)) (.int .i64 (0)))
          generalize ((wr.alloc (.cells #[.int .i64 r, .int .i64 x, .int .i64 y, .bool true] 39)).setCell ⟨w.heap.size, 0, none⟩ (.int .i64 (12))).setCell ⟨w.heap.size, 1, none⟩ (.int .i64 (0)) = w9 at *
          clear e0 e1 z0
          have e0 := hk.c0; have e1 := hk.c1
          rw [hs1.out]
          refine bodyPost_ret (v := .tuple #[.agg #[.int .i64 (12), .int .i64 (0)], .int .i64 0]) ?_ rfl ⟨rfl, HB9.out⟩
          rw [results_cell_tmp rfl]; go_simp
        | false =>
          obtain ⟨hb, hhb⟩ : ∃ hb, (Stp.mk r x y false).holds = hb := ⟨_, rfl⟩
          rw [hhb] at q2
          have hst2 : Hid (goW l 0 = if hb then (if r = 20 then goW (l.drop (k + 1)) x else goW (l.drop (k + 1)) need) else (((codeS r : Nat) : Int), 0)) := by
            show _ = _
            rw [← hW.out, hst.out, if_neg (by simp), hhb]
          have c0 := cells_of_blk hblk.out 0 _ rfl
          clear hhb hst hW
          cases hb with
          | false =>
            have hs1 : Hid (goW l 0 = (((codeS r : Nat) : Int), 0)) := hst2.out.trans (if_neg (by simp))
            clear hst2
            go_wp2_with fail
            with_reducible refine (q2.out _ hT1).mono ?_
            rintro e w3 ⟨rfl, hb3⟩
            have HB3 := Lib.hid (HB1.out.trans (hb3.mono HB1.out.size))
            have hT3 := Lib.hid (hT1.out.call hb3).rules
            have hR3 := Lib.hid (hR1.out.call hb3)
            have d0 := cells_of_blk (blk_call hblk.out hb3) 0 _ rfl
            clear hb3 c0
            go_wp2_with fail
            with_reducible refine (qC.out r hr2.out _ hT3).mono ?_
            rintro e w4 ⟨rfl, hb4⟩
            have HB4 := Lib.hid (HB3.out.trans (hb4.mono HB3.out.size))
            have hR4 := Lib.hid (hR3.out.call hb4)
            clear hb4 d0
            generalize ((codeS r : Nat) : Int) = cd at *
            have e0 := hR4.out.c0; have e1 := hR4.out.c1; have z0 := hR4.out.z
            go_wp2_with fail
            have hk := (hR4.out.s0 (cd)).s1 (0)
            have HB9 := Lib.hid (below_set2 HB4.out (Nat.le_refl _) (.int .i64 (cd)) (.int .i64 (0)))
            generalize (w4.setCell ⟨w.heap.size, 0, none⟩ (.int .i64 (cd))).setCell ⟨w.heap.size, 1, none⟩ (.int .i64 (0)) = w9 at *
            clear e0 e1 z0
            have e0 := hk.c0; have e1 := hk.c1
            rw [hs1.out]
            refine bodyPost_ret (v := .tuple #[.agg #[.int .i64 (cd), .int .i64 (0)], .int .i64 0]) ?_ rfl ⟨rfl, HB9.out⟩
            rw [results_cell_tmp rfl]; go_simp
          | true =>
            have hs1 := Lib.hid (hst2.out.trans (if_pos rfl))
            clear hst2
            by_cases h20 : r = 20
            · have hs2 : Hid (goW (l.drop (k + 1)) x = goW l 0) := (hs1.out.trans (if_pos h20)).symm
              subst h20
              go_wp2_with fail
              with_reducible refine (q2.out _ hT1).mono ?_
              rintro e w3 ⟨rfl, hb3⟩
              have HB3 := Lib.hid (HB1.out.trans (hb3.mono HB1.out.size))
              have hR3 := Lib.hid (hR1.out.call hb3)
              have hV3 := Lib.hid (hV1.out.call hb3)
              have d0 := cells_of_blk (blk_call hblk.out hb3) 0 _ rfl
              have d1 := cells_of_blk (blk_call hblk.out hb3) 1 _ rfl
              clear hb3 c0
              have e1 := hV3.out.c1; have z1 := hV3.out.z
              go_wp2_with fail
              go_roundw
              case rel => exact ⟨k + 1, x, by go_num, by show _ ≤ _; omega, hx2.out, hR3.out.oth _ _ (by omega), hV3.out.s1 x, hs2.out, HB3.out.setCell (Nat.le_of_lt hG0) _⟩
              case measure => simp [intOf]; omega
            · have hs2 : Hid (goW (l.drop (k + 1)) need = goW l 0) := (hs1.out.trans (if_neg h20)).symm
              have t2 : (r == 20) = false := beq_eq_false_iff_ne.2 h20
              clear h20 hs1
              go_wp2_with fail
              with_reducible refine (q2.out _ hT1).mono ?_
              rintro e w3 ⟨rfl, hb3⟩
              have HB3 := Lib.hid (HB1.out.trans (hb3.mono HB1.out.size))
              have hR3 := Lib.hid (hR1.out.call hb3)
              have hV3 := Lib.hid (hV1.out.call hb3)
              have d0 := cells_of_blk (blk_call hblk.out hb3) 0 _ rfl
              clear hb3 c0
              go_wp2_with fail
              go_roundw
              case rel => exact ⟨k + 1, need, by go_num, by show _ ≤ _; omega, hn.out, hR3.out, hV3.out, hs2.out, HB3.out⟩
              case measure => simp [intOf]; omega
      · have hkk : k = l.length := by have := hk.out; omega
        subst hkk
        have hs1 : Hid (goW l 0 = (0, need)) := by
          have := hW.out
          rw [List.drop_length] at this
          exact this.symm
        have e0 := hR.out.c0; have e1 := hR.out.c1; have z0 := hR.out.z
        have e2 := hV.out.c0; have e3 := hV.out.c1
        go_wp2_with fail
        have hk := (hR.out.s0 (0)).s1 (need)
        have HB9 := Lib.hid (below_set2 hB.out (Nat.le_refl _) (.int .i64 (0)) (.int .i64 (need)))
        generalize (wr.setCell ⟨w.heap.size, 0, none⟩ (.int .i64 (0))).setCell ⟨w.heap.size, 1, none⟩ (.int .i64 (need)) = w9 at *
        clear e0 e1 z0
        have e0 := hk.c0; have e1 := hk.c1
        rw [hs1.out]
        refine bodyPost_ret (v := .tuple #[.agg #[.int .i64 (0), .int .i64 (need)], .int .i64 0]) ?_ rfl ⟨rfl, HB9.out⟩
        rw [results_cell_tmp rfl]; go_simp
end Go.Proofs.YteeemoknbnlopaaDoor
