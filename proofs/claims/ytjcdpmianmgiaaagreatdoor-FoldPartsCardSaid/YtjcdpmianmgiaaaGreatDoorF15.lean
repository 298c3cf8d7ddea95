/- Part 16 of what the claim rests on. -/
import Derived.Test.YtjcdpmianmgiaaaGreatDoorF00
import Derived.Test.YtjcdpmianmgiaaaGreatDoorF01
import Derived.Test.YtjcdpmianmgiaaaGreatDoorF06
import Derived.Test.YtjcdpmianmgiaaaGreatDoorF07
import Derived.Test.YtjcdpmianmgiaaaGreatDoorF12
import Derived.Test.YtjcdpmianmgiaaaGreatDoorF13
import Derived.Test.YtjcdpmianmgiaaaGreatDoorF14
import Derived.BigQuiet
import Derived.Deep.QuietTactic
namespace Go.Proofs.YtjcdpmianmgiaaaGreatDoor
open Go Go.RowKit Go.Maps Go.WideMaps Go.MapKept
set_option linter.unusedVariables false
def VerBlk (w : World) (g : Nat) (c n : Int) : Prop := w.heap[g]? = some (.cells #[.int .i64 c, .int .i64 n] 33 (0, 0))
theorem VerBlk.call {w w' : World} {g : Nat} {c n : Int} (h : VerBlk w g c n) (hb : Below w.heap.size w w') : VerBlk w' g c n := blk_call h hb
theorem VerBlk.old {w : World} {g : Nat} {c n : Int} (h : VerBlk w g c n) (o : Obj) : VerBlk (w.alloc o) g c n := blk_old h o
theorem VerBlk.lt {w : World} {g : Nat} {c n : Int} (h : VerBlk w g c n) : g < w.heap.size := zL h
theorem VerBlk.c0 {w : World} {g : Nat} {c n : Int} (h : VerBlk w g c n) : w.cell? ⟨g, 0, none⟩ = some (.int .i64 c) := cells_of_blk h 0 _ rfl
theorem VerBlk.c1 {w : World} {g : Nat} {c n : Int} (h : VerBlk w g c n) : w.cell? ⟨g, 1, none⟩ = some (.int .i64 n) := cells_of_blk h 1 _ rfl
theorem VerBlk.z {w : World} {g : Nat} {c n : Int} (h : VerBlk w g c n) (i : Nat) : w.frozen? ⟨g, i, none⟩ = false := free_of_blk h i
theorem VerBlk.s0 {w : World} {g : Nat} {c n : Int} (h : VerBlk w g c n) (d : Int) : VerBlk (w.setCell ⟨g, 0, none⟩ (.int .i64 d)) g d n := set_blk h 0 _
theorem VerBlk.s1 {w : World} {g : Nat} {c n : Int} (h : VerBlk w g c n) (d : Int) : VerBlk (w.setCell ⟨g, 1, none⟩ (.int .i64 d)) g c d := set_blk h 1 _
theorem VerBlk.oth {w : World} {g q : Nat} {c n : Int} (h : VerBlk w g c n) (i : Nat) (u : Value) (hne : g ≠ q) : VerBlk (w.setCell ⟨q, i, none⟩ u) g c n := set_oth h i u hne
theorem below_set2 {w w1 : World} {g : Nat} {B : Nat} (h : Below B w w1) (hg : B ≤ g) (u v : Value) : Below B w ((w1.setCell ⟨g, 0, none⟩ u).setCell ⟨g, 1, none⟩ v) := (h.setCell hg u).setCell hg v
set_option maxRecDepth 100000 in
set_option maxHeartbeats 4000000 in
theorem Weigh_any (v : Value) (l : List Stp) (w : World) (hT : Hid (Law16 w)) (hv : Hid (StepsAt w v l)) (hl : l.length ≤ 1000) :
    Calls Tryz.prog 21 #[v] w fun e w' => e = .returned (if mayS l then .tuple #[.agg #[.int .i64 (goW l 0).1, .int .i64 (goW l 0).2], .int .i64 0] else .tuple #[.agg #[.int .i64 0, .int .i64 0], .int .i64 3]) ∧ Below w.heap.size w w' := by
  have qM : Hid (∀ w, Hid (Law16 w) → Hid (StepsAt w v l) → Calls Tryz.prog 60 #[v] w fun e w' => e = .returned (.bool (mayS l)) ∧ Below w.heap.size w w') := fun w hT hv => May_any v l w hT hv hl
  have qH := zH (fun s hs w h => Holds_any s hs w h)
  have qC := zH (fun n hn w h => Code_any n hn w h)
  have hb0 := (Below.refl w.heap.size w).alloc (Nat.le_refl _) (.cells #[.int .i64 0, .int .i64 0] 33)
  have hT0 := zH (hT.out.call hb0)
  have hv0 := zH (hv.out.call hb0)
  have hblk0 : Hid (VerBlk (w.alloc (.cells #[.int .i64 0, .int .i64 0] 33)) w.heap.size 0 0) := heap_new _ _
  have HB0 := zH hb0
  clear hb0
  obtain ⟨A, c, rfl, _⟩ := hv.out
  obtain ⟨m, hm⟩ : ∃ m, mayS l = m := ⟨_, rfl⟩
  rw [hm] at qM ⊢
  clear hm
  cases m with
  | false =>
    rw [if_neg (by simp)]
    go_enter Tryz.func21, Tryz.ntmps21
    go_wp2_with fail
    with_reducible refine (qM.out _ hT0 hv0).mono ?_
    rintro e w1 ⟨rfl, hb1⟩
    have HB1 := zB HB0 hb1
    have hblk1 := zH (hblk0.out.call hb1)
    clear hb1 hT0 hv0 hblk0 HB0
    have e0 := hblk1.out.c0; have e1 := hblk1.out.c1; have z0 := hblk1.out.z
    go_wp2_with fail
    have hk := (hblk1.out.s0 0).s1 0
    have HB2 := zH (below_set2 HB1.out (Nat.le_refl _) (.int .i64 0) (.int .i64 0))
    generalize (w1.setCell ⟨w.heap.size, 0, none⟩ (.int .i64 0)).setCell ⟨w.heap.size, 1, none⟩ (.int .i64 0) = w9 at *
    clear e0 e1 z0
    have e0 := hk.c0; have e1 := hk.c1
    refine bodyPost_ret (v := .tuple #[.agg #[.int .i64 0, .int .i64 0], .int .i64 3]) ?_ rfl ⟨rfl, HB2.out⟩
    rw [results_cell_tmp rfl]; go_simp
  | true =>
    rw [if_pos rfl]
    go_enter Tryz.func21, Tryz.ntmps21
    go_wp2_with fail
    with_reducible refine (qM.out _ hT0 hv0).mono ?_
    rintro e w1 ⟨rfl, hb1⟩
    have HB1 := zB HB0 hb1
    have hblk1 := zH (hblk0.out.call hb1)
    have hG0 : w.heap.size < w1.heap.size := hblk1.out.lt
    have hk2 : Hid (VerBlk (w1.alloc (.cells #[.int .i64 0, .int .i64 0] 33)) w1.heap.size 0 0) := heap_new _ _
    have hk1 := zH (hblk1.out.old (.cells #[.int .i64 0, .int .i64 0] 33))
    have HB2 := zH (below_alloc HB1.out HB1.out.size (.cells #[.int .i64 0, .int .i64 0] 33))
    clear hb1 hT0 hv0 hblk0 HB0 hblk1 HB1 qM
    go_wp2_with fail
    go_loopw [13] (fun s13 wr => ∃ (k : Nat) (need : Int), s13 = .int .i64 k ∧ Hid (k ≤ l.length) ∧ Hid (I64 need) ∧ Hid (VerBlk wr w.heap.size 0 0) ∧ Hid (VerBlk wr w1.heap.size 0 need) ∧ Hid (goW (l.drop k) need = goW l 0) ∧ Hid (Below w.heap.size w wr)) (fun s13 _ => l.length - (intOf s13).toNat)
    case atStart => exact ⟨0, 0, rfl, Nat.zero_le _, by show I64 0; unfold I64; omega, hk1.out, hk2.out, rfl, HB2.out⟩
    case round =>
      obtain ⟨k, need, rfl, hk, hn, hR, hV, hW, hB⟩ := hrel
      generalize hG1 : w1.heap.size = G1 at *
      clear hk1 hk2 HB2 hG1
      by_cases hkl : k < l.length
      · obtain ⟨A', c', hA', hci⟩ := (hv.out.call hB.out)
        cases hA'
        have hge : l[k]? = some l[k] := List.getElem?_eq_getElem hkl
        obtain ⟨hf, b, o, rfl, hbl, h0, h1, h2, h3⟩ := hci k _ hge
        have hst := zH (goW_drop hge need)
        clear hci hge
        generalize l[k] = s at *
        obtain ⟨r, x, y, ov⟩ := s
        have h0 : wr.cell? ⟨b, o + k * 4, none⟩ = some (.int .i64 r) := h0
        have h1 : wr.cell? ⟨b, o + k * 4 + 1, none⟩ = some (.int .i64 x) := h1
        have h2 : wr.cell? ⟨b, o + k * 4 + 2, none⟩ = some (.int .i64 y) := h2
        have h3 : wr.cell? ⟨b, o + k * 4 + 3, none⟩ = some (.bool ov) := h3
        have hr2 : Hid (I64 r) := hf.1
        have hx2 : Hid (I64 x) := hf.2.1
        have q2 : Hid (∀ w, Hid (Law16 w) → Calls Tryz.prog 61 #[.agg #[.int .i64 r, .int .i64 x, .int .i64 y, .bool ov]] w fun e w' => e = .returned (.bool (Stp.mk r x y ov).holds) ∧ Below w.heap.size w w') := fun w h => qH.out ⟨r, x, y, ov⟩ hf w h
        have HB1 := zH (below_alloc hB.out hB.out.size (.cells #[.int .i64 r, .int .i64 x, .int .i64 y, .bool ov] 50))
        have hblk : Hid ((wr.alloc (.cells #[.int .i64 r, .int .i64 x, .int .i64 y, .bool ov] 50)).heap[wr.heap.size]? = some (.cells #[.int .i64 r, .int .i64 x, .int .i64 y, .bool ov] 50 (0, 0))) := heap_new _ _
        have hT1 := zH (hT.out.call HB1.out)
        have hR1 := zH (hR.out.old (.cells #[.int .i64 r, .int .i64 x, .int .i64 y, .bool ov] 50))
        have hV1 := zH (hV.out.old (.cells #[.int .i64 r, .int .i64 x, .int .i64 y, .bool ov] 50))
        clear qH hf hR hV
        cases ov with
        | true =>
          have hs1 : Hid (goW l 0 = (12, 0)) := hW.out.symm.trans (hst.out.trans (if_pos rfl))
          have e0 := hR1.out.c0; have e1 := hR1.out.c1; have z0 := hR1.out.z
          clear hst q2
          go_wp2_with fail
          have hk := (hR1.out.s0 (12)).s1 (0)
          have HB9 := zH (below_set2 HB1.out (Nat.le_refl _) (.int .i64 (12)) (.int .i64 (0)))
          generalize ((wr.alloc (.cells #[.int .i64 r, .int .i64 x, .int .i64 y, .bool true] 50)).setCell ⟨w.heap.size, 0, none⟩ (.int .i64 (12))).setCell ⟨w.heap.size, 1, none⟩ (.int .i64 (0)) = w9 at *
          clear e0 e1 z0
          have e0 := hk.c0; have e1 := hk.c1
          rw [hs1.out]
          refine bodyPost_ret (v := .tuple #[.agg #[.int .i64 (12), .int .i64 (0)], .int .i64 0]) ?_ rfl ⟨rfl, HB9.out⟩
          rw [results_cell_tmp rfl]; go_simp
        | false =>
          obtain ⟨hb, hhb⟩ : ∃ hb, (Stp.mk r x y false).holds = hb := ⟨_, rfl⟩
          rw [hhb] at q2
          have hst2 : Hid (goW l 0 = if hb then (if r = 20 then goW (l.drop (k + 1)) x else goW (l.drop (k + 1)) need) else (((codeS r : Nat) : Int), 0)) := by
            show _ = _
            rw [← hW.out, hst.out, if_neg (by simp), hhb]
          have c0 := cells_of_blk hblk.out 0 _ rfl
          clear hhb hst hW
          cases hb with
          | false =>
            have hs1 : Hid (goW l 0 = (((codeS r : Nat) : Int), 0)) := hst2.out.trans (if_neg (by simp))
            clear hst2
            go_wp2_with fail
            with_reducible refine (q2.out _ hT1).mono ?_
            rintro e w3 ⟨rfl, hb3⟩
            have HB3 := zB HB1 hb3
            have hT3 := zH (hT1.out.call hb3).rules
            have hR3 := zH (hR1.out.call hb3)
            have d0 := cells_of_blk (blk_call hblk.out hb3) 0 _ rfl
            clear hb3 c0
            go_wp2_with fail
            with_reducible refine (qC.out r hr2.out _ hT3).mono ?_
            rintro e w4 ⟨rfl, hb4⟩
            have HB4 := zB HB3 hb4
            have hR4 := zH (hR3.out.call hb4)
            clear hb4 d0
            generalize ((codeS r : Nat) : Int) = cd at *
            have e0 := hR4.out.c0; have e1 := hR4.out.c1; have z0 := hR4.out.z
            go_wp2_with fail
            have hk := (hR4.out.s0 (cd)).s1 (0)
            have HB9 := zH (below_set2 HB4.out (Nat.le_refl _) (.int .i64 (cd)) (.int .i64 (0)))
            generalize (w4.setCell ⟨w.heap.size, 0, none⟩ (.int .i64 (cd))).setCell ⟨w.heap.size, 1, none⟩ (.int .i64 (0)) = w9 at *
            clear e0 e1 z0
            have e0 := hk.c0; have e1 := hk.c1
            rw [hs1.out]
            refine bodyPost_ret (v := .tuple #[.agg #[.int .i64 (cd), .int .i64 (0)], .int .i64 0]) ?_ rfl ⟨rfl, HB9.out⟩
            rw [results_cell_tmp rfl]; go_simp
          | true =>
            have hs1 := zH (hst2.out.trans (if_pos rfl))
            clear hst2
            by_cases h20 : r = 20
            · have hs2 : Hid (goW (l.drop (k + 1)) x = goW l 0) := (hs1.out.trans (if_pos h20)).symm
              subst h20
              go_wp2_with fail
              with_reducible refine (q2.out _ hT1).mono ?_
              rintro e w3 ⟨rfl, hb3⟩
              have HB3 := zB HB1 hb3
              have hR3 := zH (hR1.out.call hb3)
              have hV3 := zH (hV1.out.call hb3)
              have d0 := cells_of_blk (blk_call hblk.out hb3) 0 _ rfl
              have d1 := cells_of_blk (blk_call hblk.out hb3) 1 _ rfl
              clear hb3 c0
              have e1 := hV3.out.c1; have z1 := hV3.out.z
              go_wp2_with fail
              go_roundw
              case rel => exact ⟨k + 1, x, by go_num, by show _ ≤ _; omega, hx2.out, hR3.out.oth _ _ (by omega), hV3.out.s1 x, hs2.out, HB3.out.setCell (Nat.le_of_lt hG0) _⟩
              case measure => simp [intOf]; omega
            · have hs2 : Hid (goW (l.drop (k + 1)) need = goW l 0) := (hs1.out.trans (if_neg h20)).symm
              have t2 : (r == 20) = false := beq_eq_false_iff_ne.2 h20
              clear h20 hs1
              go_wp2_with fail
              with_reducible refine (q2.out _ hT1).mono ?_
              rintro e w3 ⟨rfl, hb3⟩
              have HB3 := zB HB1 hb3
              have hR3 := zH (hR1.out.call hb3)
              have hV3 := zH (hV1.out.call hb3)
              have d0 := cells_of_blk (blk_call hblk.out hb3) 0 _ rfl
              clear hb3 c0
              go_wp2_with fail
              go_roundw
              case rel => exact ⟨k + 1, need, by go_num, by show _ ≤ _; omega, hn.out, hR3.out, hV3.out, hs2.out, HB3.out⟩
              case measure => simp [intOf]; omega
      · have hkk : k = l.length := by have := hk.out; omega
        subst hkk
        have hs1 : Hid (goW l 0 = (0, need)) := by
          have := hW.out
          rw [List.drop_length] at this
          exact this.symm
        have e0 := hR.out.c0; have e1 := hR.out.c1; have z0 := hR.out.z
        have e2 := hV.out.c0; have e3 := hV.out.c1
        go_wp2_with fail
        have hk := (hR.out.s0 (0)).s1 (need)
        have HB9 := zH (below_set2 hB.out (Nat.le_refl _) (.int .i64 (0)) (.int .i64 (need)))
        generalize (wr.setCell ⟨w.heap.size, 0, none⟩ (.int .i64 (0))).setCell ⟨w.heap.size, 1, none⟩ (.int .i64 (need)) = w9 at *
        clear e0 e1 z0
        have e0 := hk.c0; have e1 := hk.c1
        rw [hs1.out]
        refine bodyPost_ret (v := .tuple #[.agg #[.int .i64 (0), .int .i64 (need)], .int .i64 0]) ?_ rfl ⟨rfl, HB9.out⟩
        rw [results_cell_tmp rfl]; go_simp
end Go.Proofs.YtjcdpmianmgiaaaGreatDoor
namespace Go.Proofs.YtjcdpmianmgiaaaGreatDoor
open Go Go.RowKit
set_option linter.unusedVariables false
end Go.Proofs.YtjcdpmianmgiaaaGreatDoor
namespace Go.Proofs.YtjcdpmianmgiaaaGreatDoor
open Go Go.RowKit
set_option linter.unusedVariables false
end Go.Proofs.YtjcdpmianmgiaaaGreatDoor
namespace Go.Proofs.YtjcdpmianmgiaaaGreatDoor
open Go Go.RowKit
set_option linter.unusedVariables false
set_option linter.unusedSimpArgs false
theorem gbit_any (f : Bool) (w : World) : Calls Tryz.prog 87 #[.bool f] w fun e w' => e = .returned (.int .i64 (bitI f)) ∧ w' = w := by
  cases f with
  | true =>
    have h : bitI true = 1 := rfl
    rw [h]
    go_enter Tryz.func87, Tryz.ntmps87
    go_wp2_with fail
    go_ret
    exact ⟨rfl, rfl⟩
  | false =>
    have h : bitI false = 0 := rfl
    rw [h]
    go_enter Tryz.func87, Tryz.ntmps87
    go_wp2_with fail
    go_ret
    exact ⟨rfl, rfl⟩
end Go.Proofs.YtjcdpmianmgiaaaGreatDoor
namespace Go.Proofs.YtjcdpmianmgiaaaGreatDoor
open Go Go.RowKit
set_option linter.unusedVariables false
set_option linter.unusedSimpArgs false
theorem Off.freshC {w : World} {g : Nat} (hg : w.heap.size ≤ g) : ∀ {w' : World}, Off w w' → ∀ (o : Nat) (us : List Value), Off w (putC w' g o us)
  | w', h, o, [] => h
  | w', h, o, u :: us => by
    show Off w (putC (w'.setCell ⟨g, o, none⟩ u) g (o + 1) us)
    exact Off.freshC hg (h.fresh hg o u) (o + 1) us
theorem RowOwn.setO {w : World} {B : Nat} {e : TypeId} {v : Value} {k : Nat} {l : List (List Int)} (h : RowOwn w B e v k l) {g : Nat} {cs : Array Value} {t : TypeId} {fr : Nat × Nat} (hg : w.heap[g]? = some (.cells cs t fr)) (hne : e ≠ t) (i : Nat) (u : Value) : RowOwn (w.setCell ⟨g, i, none⟩ u) B e v k l := by
  obtain ⟨⟨hl, ho⟩, hk⟩ := h
  refine ⟨⟨hl, ?_⟩, hk⟩
  rcases ho with h | ⟨g', cap, cur, h1, h2, h3, h4⟩
  · exact .inl h
  · refine .inr ⟨g', cap, cur, h1, h2, set_oth h3 i u (fun e' => ?_), h4⟩
    subst e'
    rw [hg] at h3
    injection h3 with h3
    injection h3 with _ h3 _
    exact hne h3.symm
theorem BkOwn.setO {w : World} {B : Nat} {v : Value} {b : Bk} (h : BkOwn w B v b) {g : Nat} {cs : Array Value} {fr : Nat × Nat} (hg : w.heap[g]? = some (.cells cs 27 fr)) (i : Nat) (u : Value) : BkOwn (w.setCell ⟨g, i, none⟩ u) B v b := by
  obtain ⟨vh, vs, vo, vr, rfl, h1, h2, h3, h4⟩ := h
  exact ⟨vh, vs, vo, vr, rfl, h1.setO hg (by decide) i u, h2.setO hg (by decide) i u, h3.setO hg (by decide) i u, h4.setO hg (by decide) i u⟩
theorem BkOwn.put {g B : Nat} {v : Value} {b : Bk} {fr : Nat × Nat} : ∀ {w : World} {cs : Array Value}, BkOwn w B v b → w.heap[g]? = some (.cells cs 27 fr) → ∀ (o : Nat) (us : List Value), BkOwn (putC w g o us) B v b
  | w, cs, h, hg, o, [] => h
  | w, cs, h, hg, o, u :: us => by
    show BkOwn (putC (w.setCell ⟨g, o, none⟩ u) g (o + 1) us) B v b
    exact BkOwn.put (h.setO hg o u) (set_blk hg o u) (o + 1) us
theorem BkOwn.low {g B : Nat} {v : Value} {b : Bk} (hlt : g < B) : ∀ {w : World}, BkOwn w B v b → ∀ (o : Nat) (us : List Value), BkOwn (putC w g o us) B v b
  | w, h, o, [] => h
  | w, h, o, u :: us => by
    show BkOwn (putC (w.setCell ⟨g, o, none⟩ u) g (o + 1) us) B v b
    exact BkOwn.low hlt (BkOwn.setBelow (a := ⟨g, o, none⟩) h hlt u) (o + 1) us
def BkEi (w : World) (u v : Value) (b b' : Bk) : Prop := (v = u ∧ b' = b) ∨ BkOwn w 0 v b'
theorem BkEi.same (w : World) (u : Value) (b : Bk) : BkEi w u u b b := Or.inl ⟨rfl, rfl⟩
theorem BkEi.own {w : World} {u v : Value} {b b' : Bk} (h : BkOwn w 0 v b') : BkEi w u v b b' := Or.inr h
theorem LookIs.form {I : List Stp → World → Prop} {W : World} {f : Value} {s : Stp} (h : LookIs I W f s) : ∃ K caps, f = .func (.func K) #[] caps := by
  obtain ⟨K, caps, h1, _⟩ := h
  exact ⟨K, caps, h1⟩
theorem results_tmp3 {fn : Func} {t u v : Tmp} (h : fn.results = #[.tmp t, .tmp u, .tmp v]) (tmps : Array Value) (P : Program) (w : World) :
    (results fn tmps).run P w = .ok (.tuple #[tmps.getD t undef, tmps.getD u undef, tmps.getD v undef]) w := by
  simp [results, h, go_sem]
theorem gfit (n a b : Int) (hn : 0 ≤ n ∧ n ≤ 100) (ha : I64 a) (hb : I64 b) : Hid ((sS n a b).fit) := (show (sS n a b).fit from ⟨by show I64 n; unfold I64; omega, ha, hb⟩)
theorem i64_lit {n : Int} (h : -1000 ≤ n ∧ n ≤ 1000) : I64 n := by unfold I64; omega
theorem i64_bit (f : Bool) : I64 (bitI f) := by cases f <;> (unfold bitI I64; simp)
theorem i64_len {n : Nat} (h : n ≤ 1000000) : I64 (n : Int) := by unfold I64; omega
theorem Ev.I64s.all {e : Ev} (h : e.I64s) : I64 e.kind ∧ I64 e.acc ∧ I64 e.ord ∧ I64 e.sym ∧ I64 e.side ∧ I64 e.qty ∧ I64 e.px := h
theorem Ev.I64s.kind {e : Ev} (h : e.I64s) : I64 e.kind := h.all.1
theorem Ev.I64s.acc {e : Ev} (h : e.I64s) : I64 e.acc := h.all.2.1
theorem Ev.I64s.ord {e : Ev} (h : e.I64s) : I64 e.ord := h.all.2.2.1
theorem Ev.I64s.sym {e : Ev} (h : e.I64s) : I64 e.sym := h.all.2.2.2.1
theorem Ev.I64s.side {e : Ev} (h : e.I64s) : I64 e.side := h.all.2.2.2.2.1
theorem Ev.I64s.qty {e : Ev} (h : e.I64s) : I64 e.qty := h.all.2.2.2.2.2.1
theorem Ev.I64s.px {e : Ev} (h : e.I64s) : I64 e.px := h.all.2.2.2.2.2.2
end Go.Proofs.YtjcdpmianmgiaaaGreatDoor
namespace Go.Proofs.YtjcdpmianmgiaaaGreatDoor
open Go Go.RowKit Mon Bg
set_option linter.unusedVariables false
set_option linter.unusedSimpArgs false
theorem mul_fits {a b : Int} (ha : I64 a) (hb : I64 b) : total ((a * b) % M3) = mulP a b := by
  unfold mulP
  refine total_fits ?_
  have h1 : (a * b).natAbs ≤ 9223372036854775808 * 9223372036854775808 := by
    rw [Int.natAbs_mul]
    exact Nat.mul_le_mul (by unfold I64 at ha; omega) (by unfold I64 at hb; omega)
  omega
theorem fitsP_I64 (X : Int) : I64 (fitsP X).1 := by
  by_cases h : -9223372036854775808 ≤ X ∧ X ≤ 9223372036854775807
  · rw [fits_in h]; unfold I64; simp only []; omega
  · rw [fits_out h]; unfold I64; simp
theorem reachR_I64 (b : Bk) (acc sym side qty : Int) : I64 (reachR b acc sym side qty).1 := by
  unfold reachR
  split
  · unfold I64; simp
  · exact fitsP_I64 _
theorem needR_I64 (X rate : Int) : I64 (needR X rate).1 := by
  unfold needR
  split
  · unfold I64; simp
  · exact fitsP_I64 _
set_option maxRecDepth 100000 in
set_option maxHeartbeats 2000000 in
theorem order1_on (w0 : World) (g : Nat) (vh vs vo vr : Value) (b : Bk) (e : Ev) (rate : Int) (hE : Hid e.I64s) (h0 h1 h2 h3 : Int) (W : World) (p1 p2 : Nat) (hp1 : Hid (W.heap[p1]? = some (.cells #[.int .i64 e.kind, .int .i64 e.acc, .int .i64 e.ord, .int .i64 e.sym, .int .i64 e.side, .int .i64 e.qty, .int .i64 e.px] 29 (0, 0)))) (hp2 : Hid (W.heap[p2]? = some (.cells #[.int .i64 h0, .int .i64 h1, .int .i64 h2, .int .i64 h3] 82 (0, 0)))) :
    SideOn (Gt w0 g vh vs vo vr b e rate) W (.func (.func 92) #[] #[.pointer (some ⟨p1, 0, none⟩), .pointer (some ⟨p2, 0, none⟩)]) (mulP e.qty e.px).1 h3 (mulP e.qty e.px).2 := by
  refine ⟨_, _, rfl, fun args w => enters_of Tryz.func92 (by kernel_rfl) rfl _ w, fun w l hI hW => ?_⟩
  have K1 : Hid (w.heap[p1]? = some (.cells #[.int .i64 e.kind, .int .i64 e.acc, .int .i64 e.ord, .int .i64 e.sym, .int .i64 e.side, .int .i64 e.qty, .int .i64 e.px] 29 (0, 0))) := hW.blk _ _ _ _ hp1.out (by decide) (by decide)
  have K2 : Hid (w.heap[p2]? = some (.cells #[.int .i64 h0, .int .i64 h1, .int .i64 h2, .int .i64 h3] 82 (0, 0))) := hW.blk _ _ _ _ hp2.out (by decide) (by decide)
  clear hp1 hp2 hI hW
  have q := zH (fun wz => Mul_any e.qty e.px hE.out.qty hE.out.px wz)
  rw [mul_fits hE.out.qty hE.out.px] at q
  obtain ⟨M, hM⟩ : ∃ M, mulP e.qty e.px = M := ⟨_, rfl⟩
  rw [hM] at q ⊢
  clear hM
  have c5 := zC K1.out
  go_enter Tryz.func92, Tryz.ntmps92
  go_wp2_with fail
  with_reducible refine (q.out _).mono ?_
  rintro r w1 ⟨rfl, hb⟩
  replace K2 := zK K2 hb
  have HB := zH hb
  clear hb c5
  have lt2 := zL K2.out
  have c3 := cells_of_blk K2.out 3 _ rfl
  go_wp2_with fail
  go_quiet (fail)
  go_wp2_with fail
  refine bodyPost_ret (results_tmp3 rfl _ _ _) rfl ?_
  exact ⟨rfl, below_drewN HB.out _⟩
set_option maxRecDepth 100000 in
set_option maxHeartbeats 4000000 in
theorem order2_on (w0 : World) (g : Nat) (vh vs vo vr : Value) (b : Bk) (e : Ev) (rate : Int) (B0 : Hid (BkAt w0 (.agg #[vh, vs, vo, vr, .int .i64 b.n]) b)) (hs : Hid b.Small) (hi : Hid b.I64s) (hm : Hid (b.mayB = true)) (hE : Hid e.I64s) (h0 h1 h2 h3 : Int) (W : World) (p1 p2 p3 : Nat) (hp1 : Hid (W.heap[p1]? = some (.cells #[.pointer (some ⟨g, 0, none⟩)] 73 (0, 0)))) (hp2 : Hid (W.heap[p2]? = some (.cells #[.int .i64 e.kind, .int .i64 e.acc, .int .i64 e.ord, .int .i64 e.sym, .int .i64 e.side, .int .i64 e.qty, .int .i64 e.px] 29 (0, 0)))) (hp3 : Hid (W.heap[p3]? = some (.cells #[.int .i64 h0, .int .i64 h1, .int .i64 h2, .int .i64 h3] 82 (0, 0)))) :
    SideOn (Gt w0 g vh vs vo vr b e rate) W (.func (.func 94) #[] #[.pointer (some ⟨p1, 0, none⟩), .pointer (some ⟨p2, 0, none⟩), .pointer (some ⟨p3, 0, none⟩)]) (reachR b e.acc e.sym e.side e.qty).1 h2 (reachR b e.acc e.sym e.side e.qty).2 := by
  refine ⟨_, _, rfl, fun args w => enters_of Tryz.func94 (by kernel_rfl) rfl _ w, fun w l hI hW => ?_⟩
  have K1 : Hid (w.heap[p1]? = some (.cells #[.pointer (some ⟨g, 0, none⟩)] 73 (0, 0))) := hW.blk _ _ _ _ hp1.out (by decide) (by decide)
  have K2 : Hid (w.heap[p2]? = some (.cells #[.int .i64 e.kind, .int .i64 e.acc, .int .i64 e.ord, .int .i64 e.sym, .int .i64 e.side, .int .i64 e.qty, .int .i64 e.px] 29 (0, 0))) := hW.blk _ _ _ _ hp2.out (by decide) (by decide)
  have K3 : Hid (w.heap[p3]? = some (.cells #[.int .i64 h0, .int .i64 h1, .int .i64 h2, .int .i64 h3] 82 (0, 0))) := hW.blk _ _ _ _ hp3.out (by decide) (by decide)
  clear hp1 hp2 hp3
  obtain ⟨_, _, _, _, hv, r1, r2, r3, r4⟩ := B0.out
  injection hv with hv
  simp only [Array.mk.injEq, List.cons.injEq, and_true] at hv
  obtain ⟨rfl, rfl, rfl, rfl, _⟩ := hv
  obtain ⟨Ah, ch, rfl, _⟩ := r1
  obtain ⟨As, cs, rfl, _⟩ := r2
  obtain ⟨Ao, co, rfl, _⟩ := r3
  obtain ⟨Ar, cr, rfl, _⟩ := r4
  have HI := zH hI
  have HB : Hid (Below w.heap.size w w) := Below.refl _ _
  have KG := zH (HI.out.blk.imp fun _ h => h.1)
  clear hI hW
  have q := zH (fun u wz hv => Reach_any u b e.acc e.sym e.side e.qty wz hv hs hi (zH hE.out.qty))
  have hRP : reachP b e.acc e.sym e.side e.qty = reachR b e.acc e.sym e.side e.qty := by unfold reachP; rw [hm.out]; rfl
  rw [hRP] at q
  obtain ⟨M, hM⟩ : ∃ M, reachR b e.acc e.sym e.side e.qty = M := ⟨_, rfl⟩
  rw [hM] at q ⊢
  clear hM hRP
  go_enter Tryz.func94, Tryz.ntmps94
  go_wp2_with fail
  refine wp_region_D [] (fun wz : World => Hid (wz.heap[p1]? = some (.cells #[.pointer (some ⟨g, 0, none⟩)] 73 (0, 0))) ∧ Hid (wz.heap[p2]? = some (.cells #[.int .i64 e.kind, .int .i64 e.acc, .int .i64 e.ord, .int .i64 e.sym, .int .i64 e.side, .int .i64 e.qty, .int .i64 e.px] 29 (0, 0))) ∧ Hid (∃ vX : Value, wz.heap[g]? = some (.cells #[.slice Ah b.h.length ch, .slice As b.s.length cs, .slice Ao b.o.length co, .slice Ar b.r.length cr, .int .i64 b.n, .int .i64 e.kind, .int .i64 e.acc, .int .i64 e.ord, .int .i64 e.sym, .int .i64 e.side, .int .i64 e.qty, .int .i64 e.px, .int .i64 rate, vX] 75 (0, 0)))) 18 #[false, false, false, false, false, false, false, false, false, false, false, false, false, false, false, false, false, false] (by kernel_rfl) (by kernel_rfl) (by kernel_rfl) ?_
  obtain ⟨wd1, hwd1⟩ : ∃ wd1 : World, { w with drawn := w.drawn + 1 } = wd1 := ⟨_, rfl⟩
  rw [hwd1]
  have hbwd1 : Below w.heap.size w wd1 := by rw [← hwd1]; exact (Below.refl _ _).drew
  replace KG := zH ((KG.out.imp fun _ h => blk_call h hbwd1))
  replace K1 := zK K1 hbwd1
  replace K2 := zK K2 hbwd1
  replace K3 := zK K3 hbwd1
  replace HI := zH (HI.out.kept hbwd1)
  replace HB := zB HB hbwd1
  clear hwd1 hbwd1
  refine pure_moreD [0, 1, 2, 3, 4, 5, 6, 7, 8, 9, 10, 11] 6 (L' := #[true, true, true, true, true, true, true, true, true, true, true, true, false, false, false, false, false, false]) (by kernel_rfl) (by kernel_rfl) ⟨K1, K2, KG⟩ ?_
  simp only [opsAt, List.getElem?_toArray, List.getElem?_cons_zero, List.getElem?_cons_succ]
  refine pure_atG (.pointer (some ⟨g, 0, none⟩)) rfl (fun wz hC => by have c0 := cells_of_blk hC.1.out 0 _ rfl; unfold execOp; go_simp) ?_
  refine pure_atG (.pointer (some ⟨g, 0, none⟩)) rfl (fun wz _ => by unfold execOp; go_simp) ?_
  refine pure_atG (.pointer (some ⟨g, 0, none⟩)) rfl (fun wz _ => by unfold execOp; go_simp) ?_
  refine pure_atG (.agg #[.slice Ah b.h.length ch, .slice As b.s.length cs, .slice Ao b.o.length co, .slice Ar b.r.length cr, .int .i64 b.n]) rfl (fun wz hC => by obtain ⟨vX, hX⟩ := hC.2.2.out; have c0 := cells_of_blk hX 0 _ rfl; have c1 := cells_of_blk hX 1 _ rfl; have c2 := cells_of_blk hX 2 _ rfl; have c3 := cells_of_blk hX 3 _ rfl; have c4 := cells_of_blk hX 4 _ rfl; unfold execOp; go_simp) ?_
  refine pure_atG (.pointer (some ⟨p2, 1, none⟩)) rfl (fun wz _ => by unfold execOp; go_simp) ?_
  refine pure_atG (.int .i64 e.acc) rfl (fun wz hC => by have c0 := cells_of_blk hC.2.1.out 1 _ rfl; unfold execOp; go_simp) ?_
  refine pure_atG (.pointer (some ⟨p2, 3, none⟩)) rfl (fun wz _ => by unfold execOp; go_simp) ?_
  refine pure_atG (.int .i64 e.sym) rfl (fun wz hC => by have c0 := cells_of_blk hC.2.1.out 3 _ rfl; unfold execOp; go_simp) ?_
  refine pure_atG (.pointer (some ⟨p2, 4, none⟩)) rfl (fun wz _ => by unfold execOp; go_simp) ?_
  refine pure_atG (.int .i64 e.side) rfl (fun wz hC => by have c0 := cells_of_blk hC.2.1.out 4 _ rfl; unfold execOp; go_simp) ?_
  refine pure_atG (.pointer (some ⟨p2, 5, none⟩)) rfl (fun wz _ => by unfold execOp; go_simp) ?_
  refine pure_atG (.int .i64 e.qty) rfl (fun wz hC => by have c0 := cells_of_blk hC.2.1.out 5 _ rfl; unfold execOp; go_simp) ?_
  unfold wpPure
  go_simp
  refine wpAnyD_one 12 (f := 5) (L' := #[true, true, true, true, true, true, true, true, true, true, true, true, true, false, false, false, false, false]) (by kernel_rfl) (by kernel_rfl) rfl rfl ?_
  go_wp2_with fail
  with_reducible refine (q.out _ _ (zH (B0.out.call HI.out.below))).mono ?_
  rintro e wc2 ⟨rfl, hb⟩
  replace KG := zH ((KG.out.imp fun _ h => blk_call h hb))
  replace K1 := zK K1 hb
  replace K2 := zK K2 hb
  replace K3 := zK K3 hb
  replace HI := zH (HI.out.kept hb)
  replace HB := zB HB hb
  clear hb
  go_wp2_with fail
  rw [StepQ_normal]
  refine ⟨fun _ => ⟨K1, K2, KG⟩, ?_⟩
  refine pure_moreD [13, 14, 15, 16, 17] 0 (L' := #[true, true, true, true, true, true, true, true, true, true, true, true, true, true, true, true, true, true]) (by kernel_rfl) (by kernel_rfl) ⟨K1, K2, KG⟩ ?_
  simp only [opsAt, List.getElem?_toArray, List.getElem?_cons_zero, List.getElem?_cons_succ]
  refine pure_moveG rfl rfl ?_
  refine pure_atG (.int .i64 M.1) rfl (fun wz _ => by unfold execOp; go_simp) ?_
  refine pure_atG (.bool M.2) rfl (fun wz _ => by unfold execOp; go_simp) ?_
  refine pure_atG (.int .i64 M.1) rfl (fun wz _ => by unfold execOp; go_simp) ?_
  refine pure_atG (.bool M.2) rfl (fun wz _ => by unfold execOp; go_simp) ?_
  unfold wpPure
  go_simp
  refine ⟨by kernel_rfl, ?_⟩
  rw [OnlyN_normal]
  have c_h_0 := zC K3.out
  have lt2 := zL K3.out
  go_wp2_with fail
  go_quiet (fail)
  go_wp2_with fail
  refine bodyPost_ret (results_tmp3 rfl _ _ _) rfl ?_
  exact ⟨rfl, below_drewN HB.out _⟩
set_option maxRecDepth 100000 in
set_option maxHeartbeats 4000000 in
theorem order3_on (w0 : World) (g : Nat) (vh vs vo vr : Value) (b : Bk) (e : Ev) (rate : Int) (B0 : Hid (BkAt w0 (.agg #[vh, vs, vo, vr, .int .i64 b.n]) b)) (hs : Hid b.Small) (hi : Hid b.I64s) (hm : Hid (b.mayB = true)) (hE : Hid e.I64s) (W : World) (p1 p2 : Nat) (hp1 : Hid (W.heap[p1]? = some (.cells #[.pointer (some ⟨g, 0, none⟩)] 73 (0, 0)))) (hp2 : Hid (W.heap[p2]? = some (.cells #[.int .i64 e.kind, .int .i64 e.acc, .int .i64 e.ord, .int .i64 e.sym, .int .i64 e.side, .int .i64 e.qty, .int .i64 e.px] 29 (0, 0)))) :
    SideOn (Gt w0 g vh vs vo vr b e rate) W (.func (.func 96) #[] #[.pointer (some ⟨p1, 0, none⟩), .pointer (some ⟨p2, 0, none⟩)]) (needE b e rate).1 (eqR b e.acc).1 ((needE b e rate).2 && (eqR b e.acc).2) := by
  refine ⟨_, _, rfl, fun args w => enters_of Tryz.func96 (by kernel_rfl) rfl _ w, fun w l hI hW => ?_⟩
  have K1 : Hid (w.heap[p1]? = some (.cells #[.pointer (some ⟨g, 0, none⟩)] 73 (0, 0))) := hW.blk _ _ _ _ hp1.out (by decide) (by decide)
  have K2 : Hid (w.heap[p2]? = some (.cells #[.int .i64 e.kind, .int .i64 e.acc, .int .i64 e.ord, .int .i64 e.sym, .int .i64 e.side, .int .i64 e.qty, .int .i64 e.px] 29 (0, 0))) := hW.blk _ _ _ _ hp2.out (by decide) (by decide)
  clear hp1 hp2
  obtain ⟨_, _, _, _, hv, r1, r2, r3, r4⟩ := B0.out
  injection hv with hv
  simp only [Array.mk.injEq, List.cons.injEq, and_true] at hv
  obtain ⟨rfl, rfl, rfl, rfl, _⟩ := hv
  obtain ⟨Ah, ch, rfl, _⟩ := r1
  obtain ⟨As, cs, rfl, _⟩ := r2
  obtain ⟨Ao, co, rfl, _⟩ := r3
  obtain ⟨Ar, cr, rfl, _⟩ := r4
  have HI := zH hI
  have HB : Hid (Below w.heap.size w w) := Below.refl _ _
  have KG := zH (HI.out.blk.imp fun _ h => h.1)
  clear hI hW
  have q := zH (fun u wz hv => Need_any u b e.acc e.qty e.px rate wz hv hs hi (zH hE.out.qty) (zH hE.out.px))
  have q2 := zH (fun u wz hv => Equity_any u b e.acc wz hv hs hi)
  have hRP : needP b e.acc e.qty e.px rate = needE b e rate := by unfold needP needE; rw [hm.out]; rfl
  have hRQ : eqP b e.acc = eqR b e.acc := by unfold eqP eqR; rw [hm.out]; rfl
  rw [hRP] at q
  rw [hRQ] at q2
  obtain ⟨M, hM⟩ : ∃ M, needE b e rate = M := ⟨_, rfl⟩
  obtain ⟨N, hN⟩ : ∃ N, eqR b e.acc = N := ⟨_, rfl⟩
  rw [hM] at q ⊢
  rw [hN] at q2 ⊢
  clear hM hRP hN hRQ
  obtain ⟨M1, M2⟩ := M
  obtain ⟨N1, N2⟩ := N
  go_enter Tryz.func96, Tryz.ntmps96
  go_wp2_with fail
  refine wp_region_D [] (fun wz : World => Hid (wz.heap[p1]? = some (.cells #[.pointer (some ⟨g, 0, none⟩)] 73 (0, 0))) ∧ Hid (wz.heap[p2]? = some (.cells #[.int .i64 e.kind, .int .i64 e.acc, .int .i64 e.ord, .int .i64 e.sym, .int .i64 e.side, .int .i64 e.qty, .int .i64 e.px] 29 (0, 0))) ∧ Hid (∃ vX : Value, wz.heap[g]? = some (.cells #[.slice Ah b.h.length ch, .slice As b.s.length cs, .slice Ao b.o.length co, .slice Ar b.r.length cr, .int .i64 b.n, .int .i64 e.kind, .int .i64 e.acc, .int .i64 e.ord, .int .i64 e.sym, .int .i64 e.side, .int .i64 e.qty, .int .i64 e.px, .int .i64 rate, vX] 75 (0, 0)))) 20 #[false, false, false, false, false, false, false, false, false, false, false, false, false, false, false, false, false, false, false, false] (by kernel_rfl) (by kernel_rfl) (by kernel_rfl) ?_
  obtain ⟨wd1, hwd1⟩ : ∃ wd1 : World, { w with drawn := w.drawn + 1 } = wd1 := ⟨_, rfl⟩
  rw [hwd1]
  have hbwd1 : Below w.heap.size w wd1 := by rw [← hwd1]; exact (Below.refl _ _).drew
  replace KG := zH ((KG.out.imp fun _ h => blk_call h hbwd1))
  replace K1 := zK K1 hbwd1
  replace K2 := zK K2 hbwd1
  replace HI := zH (HI.out.kept hbwd1)
  replace HB := zB HB hbwd1
  clear hwd1 hbwd1
  refine pure_moreD [0, 1, 2, 3, 4, 5, 6, 7, 8, 9, 10, 11, 12, 13] 6 (L' := #[true, true, true, true, true, true, true, true, true, true, true, true, true, true, false, false, false, false, false, false]) (by kernel_rfl) (by kernel_rfl) ⟨K1, K2, KG⟩ ?_
  simp only [opsAt, List.getElem?_toArray, List.getElem?_cons_zero, List.getElem?_cons_succ]
  refine pure_atG (.pointer (some ⟨g, 0, none⟩)) rfl (fun wz hC => by have c0 := cells_of_blk hC.1.out 0 _ rfl; unfold execOp; go_simp) ?_
  refine pure_atG (.pointer (some ⟨g, 0, none⟩)) rfl (fun wz _ => by unfold execOp; go_simp) ?_
  refine pure_atG (.pointer (some ⟨g, 0, none⟩)) rfl (fun wz _ => by unfold execOp; go_simp) ?_
  refine pure_atG (.agg #[.slice Ah b.h.length ch, .slice As b.s.length cs, .slice Ao b.o.length co, .slice Ar b.r.length cr, .int .i64 b.n]) rfl (fun wz hC => by obtain ⟨vX, hX⟩ := hC.2.2.out; have c0 := cells_of_blk hX 0 _ rfl; have c1 := cells_of_blk hX 1 _ rfl; have c2 := cells_of_blk hX 2 _ rfl; have c3 := cells_of_blk hX 3 _ rfl; have c4 := cells_of_blk hX 4 _ rfl; unfold execOp; go_simp) ?_
  refine pure_atG (.pointer (some ⟨p2, 1, none⟩)) rfl (fun wz _ => by unfold execOp; go_simp) ?_
  refine pure_atG (.int .i64 e.acc) rfl (fun wz hC => by have c0 := cells_of_blk hC.2.1.out 1 _ rfl; unfold execOp; go_simp) ?_
  refine pure_atG (.pointer (some ⟨p2, 5, none⟩)) rfl (fun wz _ => by unfold execOp; go_simp) ?_
  refine pure_atG (.int .i64 e.qty) rfl (fun wz hC => by have c0 := cells_of_blk hC.2.1.out 5 _ rfl; unfold execOp; go_simp) ?_
  refine pure_atG (.pointer (some ⟨p2, 6, none⟩)) rfl (fun wz _ => by unfold execOp; go_simp) ?_
  refine pure_atG (.int .i64 e.px) rfl (fun wz hC => by have c0 := cells_of_blk hC.2.1.out 6 _ rfl; unfold execOp; go_simp) ?_
  refine pure_atG (.pointer (some ⟨g, 0, none⟩)) rfl (fun wz hC => by have c0 := cells_of_blk hC.1.out 0 _ rfl; unfold execOp; go_simp) ?_
  refine pure_atG (.pointer (some ⟨g, 0, none⟩)) rfl (fun wz _ => by unfold execOp; go_simp) ?_
  refine pure_atG (.pointer (some ⟨g, 12, none⟩)) rfl (fun wz _ => by unfold execOp; go_simp) ?_
  refine pure_atG (.int .i64 rate) rfl (fun wz hC => by obtain ⟨vX, hX⟩ := hC.2.2.out; have c0 := cells_of_blk hX 12 _ rfl; unfold execOp; go_simp) ?_
  unfold wpPure
  go_simp
  refine wpAnyD_one 14 (f := 5) (L' := #[true, true, true, true, true, true, true, true, true, true, true, true, true, true, true, false, false, false, false, false]) (by kernel_rfl) (by kernel_rfl) rfl rfl ?_
  go_wp2_with fail
  with_reducible refine (q.out _ _ (zH (B0.out.call HI.out.below))).mono ?_
  rintro e wc2 ⟨rfl, hb⟩
  replace KG := zH ((KG.out.imp fun _ h => blk_call h hb))
  replace K1 := zK K1 hb
  replace K2 := zK K2 hb
  replace HI := zH (HI.out.kept hb)
  replace HB := zB HB hb
  clear hb
  go_wp2_with fail
  rw [StepQ_normal]
  refine ⟨fun _ => ⟨K1, K2, KG⟩, ?_⟩
  refine pure_moreD [15, 16, 17, 18, 19] 0 (L' := #[true, true, true, true, true, true, true, true, true, true, true, true, true, true, true, true, true, true, true, true]) (by kernel_rfl) (by kernel_rfl) ⟨K1, K2, KG⟩ ?_
  simp only [opsAt, List.getElem?_toArray, List.getElem?_cons_zero, List.getElem?_cons_succ]
  refine pure_moveG rfl rfl ?_
  refine pure_atG (.int .i64 M1) rfl (fun wz _ => by unfold execOp; go_simp) ?_
  refine pure_atG (.bool M2) rfl (fun wz _ => by unfold execOp; go_simp) ?_
  refine pure_atG (.int .i64 M1) rfl (fun wz _ => by unfold execOp; go_simp) ?_
  refine pure_atG (.bool M2) rfl (fun wz _ => by unfold execOp; go_simp) ?_
  unfold wpPure
  go_simp
  refine ⟨by kernel_rfl, ?_⟩
  rw [OnlyN_normal]
  go_wp2_with fail
  refine wp_region_D [] (fun wz : World => Hid (wz.heap[p1]? = some (.cells #[.pointer (some ⟨g, 0, none⟩)] 73 (0, 0))) ∧ Hid (wz.heap[p2]? = some (.cells #[.int .i64 e.kind, .int .i64 e.acc, .int .i64 e.ord, .int .i64 e.sym, .int .i64 e.side, .int .i64 e.qty, .int .i64 e.px] 29 (0, 0))) ∧ Hid (∃ vX : Value, wz.heap[g]? = some (.cells #[.slice Ah b.h.length ch, .slice As b.s.length cs, .slice Ao b.o.length co, .slice Ar b.r.length cr, .int .i64 b.n, .int .i64 e.kind, .int .i64 e.acc, .int .i64 e.ord, .int .i64 e.sym, .int .i64 e.side, .int .i64 e.qty, .int .i64 e.px, .int .i64 rate, vX] 75 (0, 0)))) 12 #[false, false, false, false, false, false, false, false, false, false, false, false] (by kernel_rfl) (by kernel_rfl) (by kernel_rfl) ?_
  obtain ⟨wd3, hwd3⟩ : ∃ wd3 : World, { wc2 with drawn := wc2.drawn + 1 } = wd3 := ⟨_, rfl⟩
  rw [hwd3]
  have hbwd3 : Below wc2.heap.size wc2 wd3 := by rw [← hwd3]; exact (Below.refl _ _).drew
  replace KG := zH ((KG.out.imp fun _ h => blk_call h hbwd3))
  replace K1 := zK K1 hbwd3
  replace K2 := zK K2 hbwd3
  replace HI := zH (HI.out.kept hbwd3)
  replace HB := zB HB hbwd3
  clear hwd3 hbwd3
  refine pure_moreD [0, 1, 2, 3, 4, 5] 6 (L' := #[true, true, true, true, true, true, false, false, false, false, false, false]) (by kernel_rfl) (by kernel_rfl) ⟨K1, K2, KG⟩ ?_
  simp only [opsAt, List.getElem?_toArray, List.getElem?_cons_zero, List.getElem?_cons_succ]
  refine pure_atG (.pointer (some ⟨g, 0, none⟩)) rfl (fun wz hC => by have c0 := cells_of_blk hC.1.out 0 _ rfl; unfold execOp; go_simp) ?_
  refine pure_atG (.pointer (some ⟨g, 0, none⟩)) rfl (fun wz _ => by unfold execOp; go_simp) ?_
  refine pure_atG (.pointer (some ⟨g, 0, none⟩)) rfl (fun wz _ => by unfold execOp; go_simp) ?_
  refine pure_atG (.agg #[.slice Ah b.h.length ch, .slice As b.s.length cs, .slice Ao b.o.length co, .slice Ar b.r.length cr, .int .i64 b.n]) rfl (fun wz hC => by obtain ⟨vX, hX⟩ := hC.2.2.out; have c0 := cells_of_blk hX 0 _ rfl; have c1 := cells_of_blk hX 1 _ rfl; have c2 := cells_of_blk hX 2 _ rfl; have c3 := cells_of_blk hX 3 _ rfl; have c4 := cells_of_blk hX 4 _ rfl; unfold execOp; go_simp) ?_
  refine pure_atG (.pointer (some ⟨p2, 1, none⟩)) rfl (fun wz _ => by unfold execOp; go_simp) ?_
  refine pure_atG (.int .i64 e.acc) rfl (fun wz hC => by have c0 := cells_of_blk hC.2.1.out 1 _ rfl; unfold execOp; go_simp) ?_
  unfold wpPure
  go_simp
  refine wpAnyD_one 6 (f := 5) (L' := #[true, true, true, true, true, true, true, false, false, false, false, false]) (by kernel_rfl) (by kernel_rfl) rfl rfl ?_
  go_wp2_with fail
  with_reducible refine (q2.out _ _ (zH (B0.out.call HI.out.below))).mono ?_
  rintro e wc4 ⟨rfl, hb⟩
  replace KG := zH ((KG.out.imp fun _ h => blk_call h hb))
  replace K1 := zK K1 hb
  replace K2 := zK K2 hb
  replace HI := zH (HI.out.kept hb)
  replace HB := zB HB hb
  clear hb
  go_wp2_with fail
  rw [StepQ_normal]
  refine ⟨fun _ => ⟨K1, K2, KG⟩, ?_⟩
  refine pure_moreD [7, 8, 9, 10, 11] 0 (L' := #[true, true, true, true, true, true, true, true, true, true, true, true]) (by kernel_rfl) (by kernel_rfl) ⟨K1, K2, KG⟩ ?_
  simp only [opsAt, List.getElem?_toArray, List.getElem?_cons_zero, List.getElem?_cons_succ]
  refine pure_moveG rfl rfl ?_
  refine pure_atG (.int .i64 N1) rfl (fun wz _ => by unfold execOp; go_simp) ?_
  refine pure_atG (.bool N2) rfl (fun wz _ => by unfold execOp; go_simp) ?_
  refine pure_atG (.int .i64 N1) rfl (fun wz _ => by unfold execOp; go_simp) ?_
  refine pure_atG (.bool N2) rfl (fun wz _ => by unfold execOp; go_simp) ?_
  unfold wpPure
  go_simp
  refine ⟨by kernel_rfl, ?_⟩
  rw [OnlyN_normal]
  cases M2 with
  | true =>
    go_wp2_with fail
    refine bodyPost_ret (results_tmp3 rfl _ _ _) rfl ?_
    exact ⟨rfl, HB.out⟩
  | false =>
    go_wp2_with fail
    refine bodyPost_ret (results_tmp3 rfl _ _ _) rfl ?_
    exact ⟨rfl, HB.out⟩
set_option maxRecDepth 100000 in
set_option maxHeartbeats 2000000 in
theorem fill1_on (w0 : World) (g : Nat) (vh vs vo vr : Value) (b : Bk) (e : Ev) (rate : Int) (c : Int) (x : Bool) (W : World) (p1 p2 : Nat) (hp1 : Hid (W.heap[p1]? = some (.cells #[.int .i64 c] 2 (0, 0)))) (hp2 : Hid (W.heap[p2]? = some (.cells #[.bool x] 4 (0, 0)))) :
    SideOn (Gt w0 g vh vs vo vr b e rate) W (.func (.func 101) #[] #[.pointer (some ⟨p1, 0, none⟩), .pointer (some ⟨p2, 0, none⟩)]) c c x := by
  refine ⟨_, _, rfl, fun args w => enters_of Tryz.func101 (by kernel_rfl) rfl _ w, fun w l hI hW => ?_⟩
  have K1 : Hid (w.heap[p1]? = some (.cells #[.int .i64 c] 2 (0, 0))) := hW.blk _ _ _ _ hp1.out (by decide) (by decide)
  have K2 : Hid (w.heap[p2]? = some (.cells #[.bool x] 4 (0, 0))) := hW.blk _ _ _ _ hp2.out (by decide) (by decide)
  clear hp1 hp2 hI hW
  have c1 := cells_of_blk K1.out 0 _ rfl
  have c2 := cells_of_blk K2.out 0 _ rfl
  have lt1 := zL K1.out
  have lt2 := zL K2.out
  go_enter Tryz.func101, Tryz.ntmps101
  go_wp2_with fail
  go_quiet (fail)
  go_wp2_with fail
  refine bodyPost_ret (results_tmp3 rfl _ _ _) rfl ?_
  exact ⟨rfl, below_drewN (Below.refl _ _) _⟩
set_option maxRecDepth 100000 in
set_option maxHeartbeats 2000000 in
theorem fill2_on (w0 : World) (g : Nat) (vh vs vo vr : Value) (b : Bk) (e : Ev) (rate : Int) (c : Int) (x : Bool) (W : World) (p1 p2 : Nat) (hp1 : Hid (W.heap[p1]? = some (.cells #[.int .i64 c] 2 (0, 0)))) (hp2 : Hid (W.heap[p2]? = some (.cells #[.bool x] 4 (0, 0)))) :
    SideOn (Gt w0 g vh vs vo vr b e rate) W (.func (.func 102) #[] #[.pointer (some ⟨p1, 0, none⟩), .pointer (some ⟨p2, 0, none⟩)]) c c x := by
  refine ⟨_, _, rfl, fun args w => enters_of Tryz.func102 (by kernel_rfl) rfl _ w, fun w l hI hW => ?_⟩
  have K1 : Hid (w.heap[p1]? = some (.cells #[.int .i64 c] 2 (0, 0))) := hW.blk _ _ _ _ hp1.out (by decide) (by decide)
  have K2 : Hid (w.heap[p2]? = some (.cells #[.bool x] 4 (0, 0))) := hW.blk _ _ _ _ hp2.out (by decide) (by decide)
  clear hp1 hp2 hI hW
  have c1 := cells_of_blk K1.out 0 _ rfl
  have c2 := cells_of_blk K2.out 0 _ rfl
  have lt1 := zL K1.out
  have lt2 := zL K2.out
  go_enter Tryz.func102, Tryz.ntmps102
  go_wp2_with fail
  go_quiet (fail)
  go_wp2_with fail
  refine bodyPost_ret (results_tmp3 rfl _ _ _) rfl ?_
  exact ⟨rfl, below_drewN (Below.refl _ _) _⟩
end Go.Proofs.YtjcdpmianmgiaaaGreatDoor
namespace Go.Proofs.YtjcdpmianmgiaaaGreatDoor
open Go Go.RowKit
set_option linter.unusedVariables false
set_option linter.unusedSimpArgs false
theorem setH_rise (id : Int) (x : List Int) (out : Bool) {l : List (List Int)} (hr : riseH l) (hx : x.headD 0 = id) : riseH (setH id x out l) := by
  obtain ⟨p, hp, hlt, _⟩ := placeH id hr
  have e := setH_at id x out hr hp hlt
  obtain ⟨F, hF, e⟩ : ∃ F : Bool, (∀ r, l[p]? = some r → F = decide (r.headD 0 = id)) ∧ setH id x out l = l.take p ++ ((if out then [] else [x]) ++ l.drop (if F then p + 1 else p)) := ⟨_, fun r hr => by rw [hr], e⟩
  rw [e]
  have h1 : ∀ r ∈ l.take p, r.headD 0 < id := fun r hm => by
    obtain ⟨k, hk⟩ := List.getElem?_of_mem hm
    rw [List.getElem?_take] at hk
    split at hk
    · rename_i hkp; exact (hlt k r hk).2 hkp
    · cases hk
  obtain ⟨q, hq⟩ : ∃ q, (if F then p + 1 else p) = q := ⟨_, rfl⟩
  have h2 : ∀ r ∈ l.drop q, id < r.headD 0 := fun r hm => by
    obtain ⟨k, hk⟩ := List.getElem?_of_mem hm
    rw [List.getElem?_drop] at hk
    have hkl := (List.getElem?_eq_some_iff.1 hk).1
    have hqp : p ≤ q := by rw [← hq]; cases F <;> simp
    have hpl : p < l.length := by omega
    have hge : ¬ l[p].headD 0 < id := fun h => by have := (hlt p _ (List.getElem?_eq_getElem hpl)).1 h; omega
    by_cases he : q + k = p
    · rw [he] at hk
      have hne : q = p := by omega
      have hFr := hF r hk
      have hr' : l[p] = r := by rw [List.getElem?_eq_getElem hpl] at hk; injection hk
      rw [hr'] at hge
      by_cases hid : r.headD 0 = id
      · exfalso
        rw [decide_eq_true hid] at hFr
        subst hFr
        simp only [if_true] at hq
        omega
      · omega
    · have h3 := (List.pairwise_iff_getElem.1 hr) p (q + k) hpl hkl (by omega)
      have hr' : l[q + k] = r := by rw [List.getElem?_eq_getElem hkl] at hk; injection hk
      rw [hr'] at h3
      omega
  rw [hq]
  unfold riseH at *
  rw [List.pairwise_append]
  refine ⟨hr.sublist (List.take_sublist _ _), ?_, ?_⟩
  · cases out with
    | true => exact hr.sublist (List.drop_sublist _ _)
    | false => exact List.pairwise_cons.2 ⟨fun r hm => by have := h2 r hm; omega, hr.sublist (List.drop_sublist _ _)⟩
  · intro a ha b hb
    have ha' := h1 a ha
    rcases List.mem_append.1 hb with hb | hb
    · cases out with
      | true => simp at hb
      | false => simp at hb; subst hb; omega
    · have := h2 b hb; omega
theorem setS_rise (kx ky : Int) (x : List Int) (out : Bool) {l : List (List Int)} (hr : riseS l) (hx : x.headD 0 = kx) (hy : x.tail.headD 0 = ky) : riseS (setS kx ky x out l) := by
  obtain ⟨p, hp, hlt, _⟩ := placeS kx ky hr
  have e := setS_at kx ky x out hr hp hlt
  obtain ⟨F, hF, e⟩ : ∃ F : Bool, (∀ r, l[p]? = some r → F = decide (r.headD 0 = kx ∧ r.tail.headD 0 = ky)) ∧ setS kx ky x out l = l.take p ++ ((if out then [] else [x]) ++ l.drop (if F then p + 1 else p)) := ⟨_, fun r hr => by rw [hr], e⟩
  rw [e]
  have h1 : ∀ r ∈ l.take p, stLt r kx ky := fun r hm => by
    obtain ⟨k, hk⟩ := List.getElem?_of_mem hm
    rw [List.getElem?_take] at hk
    split at hk
    · rename_i hkp; exact (hlt k r hk).2 hkp
    · cases hk
  obtain ⟨q, hq⟩ : ∃ q, (if F then p + 1 else p) = q := ⟨_, rfl⟩
  have h2 : ∀ r ∈ l.drop q, kx < r.headD 0 ∨ kx = r.headD 0 ∧ ky < r.tail.headD 0 := fun r hm => by
    obtain ⟨k, hk⟩ := List.getElem?_of_mem hm
    rw [List.getElem?_drop] at hk
    have hkl := (List.getElem?_eq_some_iff.1 hk).1
    have hqp : p ≤ q := by rw [← hq]; cases F <;> simp
    have hpl : p < l.length := by omega
    have hge : ¬ stLt l[p] kx ky := fun h => by have := (hlt p _ (List.getElem?_eq_getElem hpl)).1 h; omega
    by_cases he : q + k = p
    · rw [he] at hk
      have hne : q = p := by omega
      have hFr := hF r hk
      have hr' : l[p] = r := by rw [List.getElem?_eq_getElem hpl] at hk; injection hk
      rw [hr'] at hge
      by_cases hid : r.headD 0 = kx ∧ r.tail.headD 0 = ky
      · exfalso
        rw [decide_eq_true hid] at hFr
        subst hFr
        simp only [if_true] at hq
        omega
      · unfold stLt at hge; omega
    · have h3 := (List.pairwise_iff_getElem.1 hr) p (q + k) hpl hkl (by omega)
      have hr' : l[q + k] = r := by rw [List.getElem?_eq_getElem hkl] at hk; injection hk
      rw [hr'] at h3
      unfold stLt at h3 hge
      omega
  rw [hq]
  unfold riseS at *
  rw [List.pairwise_append]
  refine ⟨hr.sublist (List.take_sublist _ _), ?_, ?_⟩
  · cases out with
    | true => exact hr.sublist (List.drop_sublist _ _)
    | false => exact List.pairwise_cons.2 ⟨fun r hm => by have := h2 r hm; unfold stLt; omega, hr.sublist (List.drop_sublist _ _)⟩
  · intro a ha b hb
    have ha' := h1 a ha
    rcases List.mem_append.1 hb with hb | hb
    · cases out with
      | true => simp at hb
      | false => simp only [Bool.false_eq_true, if_false, List.mem_singleton] at hb; subst hb; rw [hx, hy]; exact ha'
    · have := h2 b hb; unfold stLt at ha' ⊢; omega
end Go.Proofs.YtjcdpmianmgiaaaGreatDoor
namespace Go.Proofs.YtjcdpmianmgiaaaGreatDoor
open Go Go.RowKit Mon
set_option linter.unusedVariables false
set_option linter.unusedSimpArgs false
theorem setK_any {ge ne : List Int → Bool} {x : List Int} (p : List Int → Bool) : ∀ (d : Bool) (l : List (List Int)), (setK ge ne x d l).any p = ((!d && p x) || l.any (fun r => ne r && p r))
  | d, [] => by cases d <;> simp [setK]
  | d, r :: t => by
    have e1 : ∀ (c : Bool) (y : List Int), (if c then [y] else []).any p = (c && p y) := by intro c y; cases c <;> simp
    rw [setK, List.any_append, List.any_append, setK_any p (d || ge r) t, List.any_cons, e1, e1]
    generalize p x = X
    generalize p r = Y
    generalize t.any (fun r => ne r && p r) = Z
    generalize ge r = G
    generalize ne r = N
    cases d <;> cases G <;> cases N <;> cases X <;> cases Y <;> cases Z <;> rfl
theorem setK_length {ge ne : List Int → Bool} {x : List Int} : ∀ (d : Bool) (l : List (List Int)), (setK ge ne x d l).length = (if d then 0 else 1) + (l.filter ne).length
  | d, [] => by cases d <;> simp [setK]
  | d, r :: t => by
    rw [setK, List.length_append, List.length_append, setK_length (d || ge r) t, List.filter_cons]
    cases d <;> cases ge r <;> cases ne r <;> simp <;> omega
theorem setK_out {ge ne : List Int → Bool} {x : List Int} : ∀ (l : List (List Int)), setK ge ne x true l = l.filter ne
  | [] => rfl
  | r :: t => by
    rw [setK, show (true || ge r) = true from rfl, setK_out t, List.filter_cons]
    cases ne r <;> simp
theorem setK_mem {ge ne : List Int → Bool} {x r : List Int} : ∀ {d : Bool} {l : List (List Int)}, r ∈ setK ge ne x d l → r = x ∨ r ∈ l
  | d, [], h => by cases d <;> simp [setK] at h; exact .inl h
  | d, a :: t, h => by
    rw [setK] at h
    rcases List.mem_append.1 h with h | h
    · split at h <;> simp at h
      exact .inl h
    rcases List.mem_append.1 h with h | h
    · split at h <;> simp at h
      exact .inr (by simp [h])
    · rcases setK_mem h with h | h
      · exact .inl h
      · exact .inr (by simp [h])
def hasId (l : List (List Int)) (id : Int) : Bool := (l.find? (isId id)).isSome
theorem hasId_any (l : List (List Int)) (id : Int) : hasId l id = l.any (isId id) := by
  unfold hasId
  rw [List.isSome_find?]
theorem isId_yes {k : Int} {r : List Int} (h : r.headD 0 = k) : isId k r = true := decide_eq_true h
theorem isId_no {k : Int} {r : List Int} (h : ¬ r.headD 0 = k) : isId k r = false := decide_eq_false h
theorem isId_both {k id : Int} (hk : ¬ k = id) : (fun r => !isId id r && isId k r) = isId k := by
  funext r
  by_cases h : r.headD 0 = k
  · rw [isId_yes h, isId_no (by rw [h]; exact hk)]; rfl
  · rw [isId_no h]; simp
theorem hasId_set {id : Int} {x : List Int} (hx : x.headD 0 = id) (l : List (List Int)) (k : Int) : hasId (setH id x false l) k = (decide (k = id) || hasId l k) := by
  rw [hasId_any, hasId_any, setH, setK_any]
  by_cases hk : k = id
  · subst hk
    rw [isId_yes hx]
    simp
  · rw [isId_no (show ¬ x.headD 0 = k from by rw [hx]; exact fun e => hk e.symm), isId_both hk]
    simp [hk]
theorem none_any {p : List Int → Bool} {l : List (List Int)} (h : l.any p = false) : ∀ r ∈ l, p r = false := by
  intro r hr
  have := List.any_eq_false.1 h r hr
  simpa using this
theorem any_none {p : List Int → Bool} {l : List (List Int)} (h : ∀ r ∈ l, p r = false) : l.any p = false := by
  rw [List.any_eq_false]
  intro r hr
  simp [h r hr]
theorem filter_new {id : Int} {l : List (List Int)} (h : hasId l id = false) : l.filter (fun r => !isId id r) = l := by
  rw [hasId_any] at h
  rw [List.filter_eq_self]
  intro r hr
  simp [none_any h r hr]
theorem setH_new {id : Int} {x : List Int} {l : List (List Int)} (h : hasId l id = false) : (setH id x false l).length = l.length + 1 := by
  rw [setH, setK_length, filter_new h]
  simp; omega
theorem setH_old {id : Int} {x : List Int} {d : Bool} {l : List (List Int)} (h : hasId l id = true) : (setH id x d l).length ≤ l.length := by
  rw [setH, setK_length]
  rw [hasId_any, List.any_eq_true] at h
  obtain ⟨r, hr, hi⟩ := h
  have : (l.filter (fun r => !isId id r)).length < l.length := by
    rw [← Nat.not_le]
    intro hle
    have he := List.filter_eq_self.1 ((List.filter_sublist).eq_of_length_le hle) r hr
    rw [hi] at he
    simp at he
  split <;> omega
structure Bk.Fine (b : Bk) : Prop where
  lh : b.h.length ≤ 32
  lo : b.o.length ≤ 64
  lr : b.r.length ≤ 32
  rise : b.Rise
  n0 : 0 ≤ b.n
  n1 : b.n ≤ 1099511627776
  h : ∀ r ∈ b.h, badH r = false
  r : ∀ r ∈ b.r, badR r = false
  s : ∀ r ∈ b.s, badS b r = false
  o : ∀ r ∈ b.o, badO b r = false
theorem Bk.mayB_iff (b : Bk) : b.mayB = true ↔ b.Fine := by
  unfold Bk.mayB Bk.listsB Bk.countB
  simp only [Bool.and_eq_true, Bool.not_eq_true', decide_eq_false_iff_not, Bk.riseB_iff]
  constructor
  · rintro ⟨⟨h1, h2, h3, h4⟩, ⟨h5, h6⟩, h7, h8, h9, h10⟩
    exact ⟨by omega, by omega, by omega, h4, by omega, by omega, none_any h7, none_any h8, none_any h9, none_any h10⟩
  · intro h
    exact ⟨⟨by have := h.lh; omega, by have := h.lo; omega, by have := h.lr; omega, h.rise⟩, ⟨by have := h.n0; omega, by have := h.n1; omega⟩, any_none h.h, any_none h.r, any_none h.s, any_none h.o⟩
theorem thereB_eq (b : Bk) (acc sym : Int) : thereB b acc sym = (hasId b.h acc && hasId b.r sym) := rfl
theorem badS_mono {b c : Bk} (h : ∀ a s, thereB b a s = true → thereB c a s = true) {r : List Int} (hr : badS b r = false) : badS c r = false := by
  unfold badS at hr ⊢
  simp only [Bool.or_eq_false_iff, Bool.not_eq_false'] at hr ⊢
  exact ⟨hr.1, h _ _ hr.2⟩
theorem badO_mono {b c : Bk} (h : ∀ a s, thereB b a s = true → thereB c a s = true) {r : List Int} (hr : badO b r = false) : badO c r = false := by
  unfold badO at hr ⊢
  simp only [Bool.or_eq_false_iff, Bool.not_eq_false'] at hr ⊢
  exact ⟨hr.1, hr.2.1, hr.2.2.1, hr.2.2.2.1, h _ _ hr.2.2.2.2⟩
theorem Fine.setHolder {b : Bk} (hb : b.Fine) {id x1 x2 x3 : Int} (h2 : 0 ≤ x2) (h3 : 0 ≤ x3) (hl : (setH id [id, x1, x2, x3] false b.h).length ≤ 32) : ({ b with h := setH id [id, x1, x2, x3] false b.h } : Bk).Fine := by
  have hm : ∀ a s, thereB b a s = true → thereB { b with h := setH id [id, x1, x2, x3] false b.h } a s = true := by
    intro a s h
    rw [thereB_eq] at h ⊢
    rw [Bool.and_eq_true] at h ⊢
    refine ⟨?_, h.2⟩
    show hasId (setH id [id, x1, x2, x3] false b.h) a = true
    rw [hasId_set (id := id) (x := [id, x1, x2, x3]) rfl, h.1]
    simp
  refine ⟨hl, hb.lo, hb.lr, ⟨setH_rise _ _ _ hb.rise.1 rfl, hb.rise.2⟩, hb.n0, hb.n1, ?_, hb.r, fun r hr => badS_mono hm (hb.s r hr), fun r hr => badO_mono hm (hb.o r hr)⟩
  intro r hr
  rcases setK_mem hr with rfl | hr
  · simp [badH]; omega
  · exact hb.h r hr
theorem Fine.setRate {b : Bk} (hb : b.Fine) {id x1 : Int} (h1 : 1 ≤ x1) (hl : (setH id [id, x1] false b.r).length ≤ 32) : ({ b with r := setH id [id, x1] false b.r } : Bk).Fine := by
  have hm : ∀ a s, thereB b a s = true → thereB { b with r := setH id [id, x1] false b.r } a s = true := by
    intro a s h
    rw [thereB_eq] at h ⊢
    rw [Bool.and_eq_true] at h ⊢
    refine ⟨h.1, ?_⟩
    show hasId (setH id [id, x1] false b.r) s = true
    rw [hasId_set (id := id) (x := [id, x1]) rfl, h.2]
    simp
  refine ⟨hb.lh, hb.lo, hl, ⟨hb.rise.1, hb.rise.2.1, setH_rise _ _ _ hb.rise.2.2.1 rfl, hb.rise.2.2.2⟩, hb.n0, hb.n1, hb.h, ?_, fun r hr => badS_mono hm (hb.s r hr), fun r hr => badO_mono hm (hb.o r hr)⟩
  intro r hr
  rcases setK_mem hr with rfl | hr
  · simp [badR]; omega
  · exact hb.r r hr
theorem Fine.setOpen {b : Bk} (hb : b.Fine) {id : Int} {x : List Int} {d : Bool} (hx : x.headD 0 = id) (h : d = false → badO b x = false) (hl : (setH id x d b.o).length ≤ 64) : ({ b with o := setH id x d b.o } : Bk).Fine := by
  refine ⟨hb.lh, hl, hb.lr, ⟨hb.rise.1, setH_rise _ _ _ hb.rise.2.1 hx, hb.rise.2.2⟩, hb.n0, hb.n1, hb.h, hb.r, hb.s, ?_⟩
  intro r hr
  show badO b r = false
  cases d with
  | false =>
    rcases setK_mem hr with rfl | hr
    · exact h rfl
    · exact hb.o r hr
  | true =>
    have hr' : r ∈ setH id x true b.o := hr
    rw [setH, setK_out] at hr'
    exact hb.o r ((List.mem_filter.1 hr').1)
theorem Fine.setStake {b : Bk} (hb : b.Fine) {a s q : Int} (ht : thereB b a s = true) : ({ b with s := setS a s [a, s, q] (q == 0) b.s } : Bk).Fine := by
  refine ⟨hb.lh, hb.lo, hb.lr, ⟨hb.rise.1, hb.rise.2.1, hb.rise.2.2.1, setS_rise _ _ _ _ hb.rise.2.2.2 rfl rfl⟩, hb.n0, hb.n1, hb.h, hb.r, ?_, hb.o⟩
  intro r hr
  show badS b r = false
  by_cases hq : q = 0
  · have hr' : r ∈ setS a s [a, s, q] (q == 0) b.s := hr
    rw [show (q == 0) = true by simp [hq], setS, setK_out] at hr'
    exact hb.s r ((List.mem_filter.1 hr').1)
  · rcases setK_mem hr with rfl | hr
    · simp [badS, hq]; exact ht
    · exact hb.s r hr
theorem hold1 {n a b : Int} (h : relS n = 1) : (sS n a b).holds = decide (a ≤ b) := by unfold Stp.holds sS; simp only []; rw [h]; rfl
theorem hold2 {n a b : Int} (h : relS n = 2) : (sS n a b).holds = decide (b ≤ a) := by unfold Stp.holds sS; simp only []; rw [h]; rfl
theorem hold3 {n a b : Int} (h : relS n = 3) : (sS n a b).holds = decide (a = b) := by
  unfold Stp.holds sS; simp only []; rw [h]
  show (!false && (a == b)) = _
  simp
  rfl
theorem holdO {n a b : Int} {f : Bool} : (oS n a b f).holds = (f && (sS n a b).holds) := by cases f <;> rfl
theorem bitI_one (b : Bool) : (bitI b = 1) ↔ b = true := by cases b <;> simp [bitI]
theorem bitI_zero (b : Bool) : (bitI b = 0) ↔ b = false := by cases b <;> simp [bitI]
theorem rels : relS 1 = 2 ∧ relS 2 = 1 ∧ relS 3 = 2 ∧ relS 4 = 1 ∧ relS 5 = 2 ∧ relS 6 = 2 ∧ relS 7 = 2 ∧ relS 8 = 2 ∧ relS 9 = 2 ∧ relS 10 = 3 ∧ relS 11 = 3 ∧ relS 12 = 3 ∧ relS 13 = 3 ∧ relS 14 = 3 ∧ relS 15 = 1 ∧ relS 16 = 1 ∧ relS 17 = 1 ∧ relS 18 = 1 ∧ relS 19 = 1 ∧ relS 20 = 1 ∧ relS 21 = 1 ∧ relS 22 = 3 ∧ relS 23 = 3 := by decide
theorem headS_iff (e : Ev) : (headS e).all (·.holds) = true ↔ 1 ≤ e.kind ∧ e.kind ≤ 7 := by
  obtain ⟨r1, r2, _⟩ := rels
  simp [headS, hold2 r1, hold1 r2]
theorem accS_iff (b : Bk) (e : Ev) : (accS b e).all (·.holds) = true ↔ 0 ≤ e.qty ∧ hasH b e.acc = false ∧ b.h.length ≤ 31 := by
  obtain ⟨_, _, _, _, _, _, r7, _, _, _, r11, _, _, _, r15, _⟩ := rels
  simp [accS, hold2 r7, hold3 r11, hold1 r15, bitI_zero]
  omega
theorem limS_iff (b : Bk) (e : Ev) : (limS b e).all (·.holds) = true ↔ hasH b e.acc = true ∧ 0 ≤ e.qty ∧ 0 ≤ e.px := by
  obtain ⟨_, _, _, _, _, _, _, r8, r9, r10, _⟩ := rels
  simp [limS, hold2 r8, hold2 r9, hold3 r10, bitI_one]
theorem quoS_iff (b : Bk) (e : Ev) : (quoS b e).all (·.holds) = true ↔ 1 ≤ e.px ∧ (hasR b e.sym = false → b.r.length ≤ 31) := by
  obtain ⟨_, _, _, _, _, r6, _, _, _, _, _, _, _, _, _, _, r17, _⟩ := rels
  unfold quoS
  cases h : hasR b e.sym
  · simp [hold2 r6, hold1 r17]; omega
  · simp [hold2 r6]
theorem canS_iff (b : Bk) (e : Ev) : (canS b e).all (·.holds) = true ↔ hasO b e.ord = true := by
  obtain ⟨_, _, _, _, _, _, _, _, _, _, _, _, r13, _⟩ := rels
  simp [canS, hold3 r13, bitI_one]
theorem ordS_iff (b : Bk) (e : Ev) (rate : Int) : (ordS b e rate).all (·.holds) = true → 0 ≤ e.side ∧ e.side ≤ 1 ∧ 1 ≤ e.qty ∧ 1 ≤ e.px ∧ hasH b e.acc = true ∧ hasO b e.ord = false ∧ hasR b e.sym = true ∧ b.o.length ≤ 63 ∧ (needE b e rate).2 = true := by
  obtain ⟨_, _, r3, r4, r5, r6, _, _, _, r10, _, r12, _, r14, _, r16, _⟩ := rels
  simp only [ordS, List.all_cons, List.all_nil, Bool.and_true, Bool.and_eq_true, hold2 r3, hold1 r4, hold2 r5, hold2 r6, hold3 r10, hold3 r12, hold3 r14, hold1 r16, bitI_one, bitI_zero, decide_eq_true_eq, holdO]
  rintro ⟨h1, h2, h3, h4, h5, h6, h7, h8, _, _, ⟨h9, _⟩, _⟩
  exact ⟨h1, h2, h3, h4, h5, h6, h7, by omega, h9⟩
theorem fillS_iff (b : Bk) (e : Ev) : (fillS b e).all (·.holds) = true → hasO b e.ord = true ∧ 1 ≤ e.qty ∧ 1 ≤ e.px ∧ e.qty ≤ (recO b e.ord).getD 4 0 := by
  obtain ⟨_, _, _, _, r5, r6, _, _, _, _, _, _, r13, _, _, _, _, _, _, _, r21, _⟩ := rels
  simp only [fillS, List.all_cons, List.all_nil, Bool.and_true, Bool.and_eq_true, hold2 r5, hold2 r6, hold3 r13, hold1 r21, bitI_one, decide_eq_true_eq]
  rintro ⟨h1, h2, h3, h4, _⟩
  exact ⟨h1, h2, h3, h4⟩
theorem recO_mem {b : Bk} {ord : Int} (h : hasO b ord = true) : recO b ord ∈ b.o ∧ (recO b ord).headD 0 = ord := by
  unfold hasO at h
  unfold recO
  cases hf : b.o.find? (isId ord) with
  | none => rw [hf] at h; cases h
  | some r =>
    have h1 : isId ord r = true := List.find?_some hf
    exact ⟨List.mem_of_find?_eq_some hf, of_decide_eq_true h1⟩
theorem recH_mem {b : Bk} {acc : Int} (h : hasH b acc = true) : recH b acc ∈ b.h ∧ (recH b acc).headD 0 = acc := by
  unfold hasH at h
  unfold recH
  cases hf : b.h.find? (isId acc) with
  | none => rw [hf] at h; cases h
  | some r =>
    have h1 : isId acc r = true := List.find?_some hf
    exact ⟨List.mem_of_find?_eq_some hf, of_decide_eq_true h1⟩
theorem getD0 (r : List Int) : r.getD 0 0 = r.headD 0 := by cases r <;> rfl
theorem fill_fine {b : Bk} (hb : b.Fine) {o h : List Int} {c s qty : Int} (ho : o ∈ b.o) (hl6 : o.length = 6) (h1 : 1 ≤ qty) (h2 : qty ≤ o.getD 4 0) (hh : h ∈ b.h) (hk : h.headD 0 = o.getD 1 0) (hO : hasId b.o (o.getD 0 0) = true) : (fillX b o h c s qty).Fine := by
  have hbad := hb.o o ho
  have hbh := hb.h h hh
  unfold badO at hbad
  simp only [Bool.or_eq_false_iff, Bool.not_eq_false', decide_eq_false_iff_not] at hbad
  obtain ⟨_, p5, p3, p31, pt⟩ := hbad
  unfold badH at hbh
  simp only [Bool.or_eq_false_iff, decide_eq_false_iff_not] at hbh
  have pt' := pt
  rw [thereB_eq, Bool.and_eq_true] at pt'
  have f1 := Fine.setHolder hb (id := h.getD 0 0) (x1 := c) (x2 := h.getD 2 0) (x3 := h.getD 3 0) (by omega) (by omega) (Nat.le_trans (setH_old (by rw [getD0, hk]; exact pt'.1)) hb.lh)
  have t1 : thereB { b with h := setH (h.getD 0 0) [h.getD 0 0, c, h.getD 2 0, h.getD 3 0] false b.h } (o.getD 1 0) (o.getD 2 0) = true := by
    rw [thereB_eq, Bool.and_eq_true]
    refine ⟨?_, pt'.2⟩
    show hasId (setH (h.getD 0 0) [h.getD 0 0, c, h.getD 2 0, h.getD 3 0] false b.h) (o.getD 1 0) = true
    rw [hasId_set (id := h.getD 0 0) (x := [h.getD 0 0, c, h.getD 2 0, h.getD 3 0]) rfl, pt'.1]
    simp
  have f2 := Fine.setStake f1 (q := s) t1
  have f3 := Fine.setOpen f2 (id := o.getD 0 0) (x := [o.getD 0 0, o.getD 1 0, o.getD 2 0, o.getD 3 0, o.getD 4 0 - qty, o.getD 5 0]) (d := (o.getD 4 0 - qty == 0)) rfl
    (fun hd => by
      have hd' : o.getD 4 0 - qty ≠ 0 := by simpa using hd
      unfold badO
      simp only [List.getD_cons_zero, List.getD_cons_succ, Bool.or_eq_false_iff, Bool.not_eq_false', decide_eq_false_iff_not]
      exact ⟨by omega, p5, p3, p31, t1⟩)
    (Nat.le_trans (setH_old hO) hb.lo)
  exact f3
theorem newB_fine {b : Bk} (hb : b.Fine) (h6 : ∀ r ∈ b.o, r.length = 6) (e : Ev) (rate : Int) (ha : (allS b e rate).all (·.holds) = true) : (newB b e).Fine := by
  unfold allS at ha
  rw [List.all_append, Bool.and_eq_true] at ha
  obtain ⟨_, hk⟩ := ha
  unfold newB
  unfold kindS at hk
  by_cases h1 : e.kind = 1
  · rw [if_pos h1] at hk ⊢
    obtain ⟨k1, k2, k3⟩ := (accS_iff b e).1 hk
    exact Fine.setHolder hb (by unfold maxI; omega) (by unfold maxI; omega) (by rw [setH_new k2]; omega)
  rw [if_neg h1] at hk ⊢
  by_cases h2 : e.kind = 2
  · rw [if_pos h2] at hk ⊢
    obtain ⟨k1, k2, k3⟩ := (limS_iff b e).1 hk
    have hid := (recH_mem k1).2
    exact Fine.setHolder hb k2 k3 (Nat.le_trans (setH_old (by rw [getD0, hid]; exact k1)) hb.lh)
  rw [if_neg h2] at hk ⊢
  by_cases h3 : e.kind = 3
  · rw [if_pos h3] at hk ⊢
    obtain ⟨k1, k2⟩ := (quoS_iff b e).1 hk
    refine Fine.setRate hb k1 ?_
    cases hr : hasR b e.sym with
    | true => exact Nat.le_trans (setH_old hr) hb.lr
    | false => have := k2 hr; rw [setH_new hr]; omega
  rw [if_neg h3] at hk ⊢
  by_cases h4 : e.kind = 4
  · rw [if_pos h4] at hk ⊢
    obtain ⟨k1, k2, k3, k4, k5, k6, k7, k8, _⟩ := ordS_iff b e rate hk
    have hq : (e.qty == 0) = false := by simp; omega
    unfold ordB
    rw [hq]
    refine Fine.setOpen hb rfl (fun _ => ?_) (by rw [setH_new k6]; omega)
    unfold badO
    simp only [List.getD_cons_zero, List.getD_cons_succ, Bool.or_eq_false_iff, Bool.not_eq_false', decide_eq_false_iff_not]
    exact ⟨by omega, by omega, by omega, by omega, by rw [thereB_eq, Bool.and_eq_true]; exact ⟨k5, k7⟩⟩
  rw [if_neg h4] at hk ⊢
  by_cases h5 : e.kind = 5
  · rw [if_pos h5] at hk ⊢
    obtain ⟨k1, k2, k3, k4⟩ := fillS_iff b e hk
    obtain ⟨m1, m2⟩ := recO_mem k1
    have hbad := hb.o _ m1
    unfold badO at hbad
    simp only [Bool.or_eq_false_iff, Bool.not_eq_false', decide_eq_false_iff_not] at hbad
    have ht := hbad.2.2.2.2
    rw [thereB_eq, Bool.and_eq_true] at ht
    obtain ⟨g1, g2⟩ := recH_mem (b := b) (acc := (recO b e.ord).getD 1 0) ht.1
    exact fill_fine hb m1 (h6 _ m1) k2 k4 g1 g2 (by rw [getD0, m2]; exact k1)
  rw [if_neg h5] at hk ⊢
  by_cases h6' : e.kind = 6
  · rw [if_pos h6'] at hk ⊢
    have k1 := (canS_iff b e).1 hk
    exact Fine.setOpen hb rfl (fun h => by cases h) (Nat.le_trans (setH_old k1) hb.lo)
  rw [if_neg h6']
  exact hb
theorem gateB_may {b : Bk} (hb : b.mayB = true) (h6 : ∀ r ∈ b.o, r.length = 6) (hn : b.n ≠ 1099511627776) (e : Ev) (rate : Int) : (gateB b e rate).mayB = true := by
  rw [Bk.mayB_iff] at hb ⊢
  have hd : (doneB b e rate).Fine := by
    unfold doneB
    split
    · exact newB_fine hb h6 e rate ‹_›
    · exact hb
  have n1 := hb.n1
  have n0 := hb.n0
  exact ⟨hd.lh, hd.lo, hd.lr, hd.rise, by show 0 ≤ b.n + 1; omega, by show b.n + 1 ≤ _; omega, hd.h, hd.r, hd.s, hd.o⟩
end Go.Proofs.YtjcdpmianmgiaaaGreatDoor
namespace Go.Proofs.YtjcdpmianmgiaaaGreatDoor
open Go Go.RowKit Mon Bg
set_option linter.unusedVariables false
set_option linter.unusedSimpArgs false
theorem afterR_I64 (b : Bk) (acc sym side qty px : Int) : I64 (afterR b acc sym side qty px).1.1 ∧ I64 (afterR b acc sym side qty px).2.1 := by
  unfold afterR
  split
  · unfold I64; simp
  · exact ⟨fitsP_I64 _, fitsP_I64 _⟩
theorem setK_le {ge ne : List Int → Bool} {x : List Int} (d : Bool) (l : List (List Int)) : (setK ge ne x d l).length ≤ l.length + 1 := by
  rw [setK_length]
  have := List.length_filter_le ne l
  split <;> omega
end Go.Proofs.YtjcdpmianmgiaaaGreatDoor
