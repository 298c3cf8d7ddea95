/- The head: Chain. -/
import Derived.Test.YtaigngdlioplaaaDoorHeadF
namespace Go.Proofs.YtaigngdlioplaaaDoor
open Go Go.RowKit

def chainE : Option (Int × ByteArray) → Value
  | none => .tuple #[.string ⟨#[]⟩, .int .i64 10]
  | some (_, p) => .tuple #[.string p, .int .i64 0]

set_option maxRecDepth 100000 in
theorem Chain_bad (v : Value) (n : Int) (w : World) (hb : ¬ (1 ≤ n ∧ n ≤ 32)) :
    Calls Tryd.prog 56 #[v, .int .i64 n] w fun e w' => e = .returned (.tuple #[.string ⟨#[]⟩, .int .i64 1]) ∧ Below w.heap.size w w' := by
  have q := Lib.hid (fun w => hdigest_any n w)
  rw [show decide (1 ≤ n ∧ n ≤ 32) = false by simpa using hb] at q
  have HB : Hid (∀ o, Below w.heap.size w (w.alloc o)) := fun o => below_alloc (Below.refl _ _) (Nat.le_refl _) o
  clear hb
  go_enter Tryd.func56, Tryd.ntmps56
  go_wp2_with fail
  refine (q.out _).mono ?_
  rintro e w2 ⟨rfl, rfl⟩
  go_wp2_with fail
  go_ret2
  exact ⟨rfl, HB.out _⟩

set_option maxRecDepth 100000 in
set_option maxHeartbeats 1000000 in
theorem Chain_any (K : Nat → Int) (H : St) (A : Option Addr) (n c : Nat) (g : Nat → Hd) (m : Nat) (w : World) (hT : Hid (ShaT w K H)) (hm : Hid (1 ≤ m ∧ m ≤ 32)) (hn : Hid (n ≤ 40)) (hA : Hid (HdsAt w A n g)) :
    Calls Tryd.prog 56 #[.slice A n c, .int .i64 m] w fun e w' => e = .returned (chainE (chainR K H m g n)) ∧ Below w.heap.size w w' := by
  have hm1 := hm.out
  have qd := Lib.hid (fun w => hdigest_any m w)
  rw [show decide (1 ≤ (m : Int) ∧ (m : Int) ≤ 32) = true by simp; omega] at qd
  have q0 := Lib.hid (fun w h => First_any K H m w h (by show _ ∧ _; omega))
  have hC0 : Hid (chainR K H m g 0 = some (0, cutS K H ⟨#[]⟩ m)) := rfl
  generalize cutS K H ⟨#[]⟩ m = S0 at *
  have hbl0 : Below w.heap.size w (w.alloc (.cells #[.int .i64 m] 3)) := below_alloc (Below.refl _ _) (Nat.le_refl _) _
  have hT1 := Lib.hid (hT.out.call hbl0)
  have HL0 := Lib.hid hbl0
  clear hbl0
  go_enter Tryd.func56, Tryd.ntmps56
  go_wp2_with fail
  refine (qd.out _).mono ?_
  rintro e w1 ⟨rfl, rfl⟩
  go_wp2_with fail
  refine (q0.out _ hT1).mono ?_
  rintro e w2 ⟨rfl, hb⟩
  have HN : w2.cell? ⟨w.heap.size, 0, none⟩ = some (.int .i64 m) := (hb.cell (p := ⟨w.heap.size, 0, none⟩) (by simp)).trans (cells_of_blk (blk_new _ _ _ rfl) 0 _ rfl)
  have HL2 := Lib.hid (HL0.out.trans (hb.mono HL0.out.size))
  have hT2 := Lib.hid (hT.out.call HL2.out)
  have hA2 := Lib.hid (hA.out.below HL2.out)
  have hlt2 : w.heap.size < w2.heap.size := by have := hb.size; simp at this; omega
  have HNN := Lib.hid HN
  clear hb HN hA hT hT1 HL0 qd q0
  go_wp2_with fail
  obtain ⟨w3, hw3⟩ : ∃ w3, w2.alloc (.cells #[.int .i64 0, .int .i64 0, .string S0] 120) = w3 := ⟨_, rfl⟩
  have HP : Hid (w3.heap[w2.heap.size]? = some (.cells #[.int .i64 0, .int .i64 0, .string S0] 120 (0, 0))) := by rw [← hw3]; exact blk_new _ _ _ rfl
  have HB3 : Hid (Below w2.heap.size w2 w3) := by rw [← hw3]; exact below_alloc (Below.refl _ _) (Nat.le_refl _) _
  rw [hw3]
  obtain ⟨bp, hbp⟩ : ∃ bp, w2.heap.size = bp := ⟨_, rfl⟩
  rw [hbp] at HP HB3 hlt2 ⊢
  have HBP := Lib.hid hbp
  clear hw3 hbp
  go_loopw [19] (fun iv wr => ∃ (k : Nat) (f : Int) (p : ByteArray), iv = .int .i64 k ∧ Hid (chainR K H m g k = some (f, p)) ∧ Hid (0 ≤ f ∧ f ≤ 64 * k) ∧ Hid (k ≤ n) ∧ Hid (Below bp w2 wr) ∧ Hid (wr.heap[bp]? = some (.cells #[.int .i64 k, .int .i64 f, .string p] 120 (0, 0)))) (fun iv _ => n - (intOf iv).toNat)
  case atStart => exact ⟨0, 0, _, rfl, hC0, by show _ ∧ _; omega, Nat.zero_le _, HB3, HP⟩
  case round =>
    clear HB3 HP hC0
    obtain ⟨k, f, p, rfl, hC, hf, hk, HB, HP⟩ := hrel
    have hk2 := hk.out
    have hn2 := hn.out
    obtain ⟨hf1, hf2⟩ := hf.out
    have hlp := (Array.getElem?_eq_some_iff.1 HP.out).1
    by_cases hlt : k < n
    · obtain ⟨b, o, rfl, hbl, hc⟩ := hA2.out k hlt
      have HB2 : Hid (Below w2.heap.size w2 wr) := by rw [HBP.out]; exact HB.out
      have hTr := Lib.hid (hT2.out.call HB2.out)
      have hOff := Lib.hid (fun hx => chainR_off (n := n) hC.out hlt hx)
      have hOn := Lib.hid (fun hx => chainR_on hC.out hx)
      have hOk := Lib.hid (fun (hx : mayB (g k) m = true) => hdOk_of (h := g k) (n := m) hx (by have := hm.out; omega))
      have hMc := Lib.hid (fun (hx : mayB (g k) m = true) => may_c hx)
      have qf := Lib.hid (fun wz a b c d e => fits_any (g k) m w.heap.size bp k f p wz (by show _ ∧ _; have := hm.out; omega) a b c d e)
      have qh := Lib.hid (fun w h1 h2 => HHash_any K H (g k) m w h1 (by show _ ∧ _; have := hm.out; omega) h2)
      clear hA2 hk
      generalize hashS K H (g k) m = S at *
      generalize g k = h at *
      obtain ⟨i, fi, cc, bb, pp, rr⟩ := h
      have c0 : wr.cell? ⟨b, o + k * 6, none⟩ = some (.int .i64 i) := (HB2.out.cell (p := ⟨b, o + k * 6, none⟩) hbl).trans (hc 0 _ rfl)
      have c1 : wr.cell? ⟨b, o + k * 6 + 1, none⟩ = some (.int .i64 fi) := (HB2.out.cell (p := ⟨b, o + k * 6 + 1, none⟩) hbl).trans (hc 1 _ rfl)
      have c2 : wr.cell? ⟨b, o + k * 6 + 2, none⟩ = some (.int .i64 cc) := (HB2.out.cell (p := ⟨b, o + k * 6 + 2, none⟩) hbl).trans (hc 2 _ rfl)
      have c3 : wr.cell? ⟨b, o + k * 6 + 3, none⟩ = some (.int .i64 bb) := (HB2.out.cell (p := ⟨b, o + k * 6 + 3, none⟩) hbl).trans (hc 3 _ rfl)
      have c4 : wr.cell? ⟨b, o + k * 6 + 4, none⟩ = some (.string pp) := (HB2.out.cell (p := ⟨b, o + k * 6 + 4, none⟩) hbl).trans (hc 4 _ rfl)
      have c5 : wr.cell? ⟨b, o + k * 6 + 5, none⟩ = some (.string rr) := (HB2.out.cell (p := ⟨b, o + k * 6 + 5, none⟩) hbl).trans (hc 5 _ rfl)
      simp only [] at hOff hOn hMc
      unfold Hd.cells at qf qh
      simp only [] at qf qh
      obtain ⟨w4, hw4⟩ : ∃ w4, wr.alloc (.cells #[.int .i64 i, .int .i64 fi, .int .i64 cc, .int .i64 bb, .string pp, .string rr] 23) = w4 := ⟨_, rfl⟩
      obtain ⟨bh, hbh⟩ : ∃ bh, wr.heap.size = bh := ⟨_, rfl⟩
      have HH : w4.heap[bh]? = some (.cells #[.int .i64 i, .int .i64 fi, .int .i64 cc, .int .i64 bb, .string pp, .string rr] 23 (0, 0)) := by rw [← hw4]; exact blk_new _ _ _ hbh.symm
      have hpb : bp < bh := by rw [← hbh]; exact hlp
      have L4 : Below bh wr w4 := by rw [← hw4, ← hbh]; exact below_alloc (Below.refl _ _) (Nat.le_refl _) _
      have B4 : Below bp w2 w4 := HB.out.trans (L4.mono (by omega))
      have P4 : w4.heap[bp]? = some (.cells #[.int .i64 k, .int .i64 f, .string p] 120 (0, 0)) := (L4.block _ (by omega)).trans HP.out
      have N4 : w4.cell? ⟨w.heap.size, 0, none⟩ = some (.int .i64 m) := (B4.cell (p := ⟨w.heap.size, 0, none⟩) hlt2).trans HNN.out
      have S4 := (Array.getElem?_eq_some_iff.1 HH).1
      have qf4 := Lib.hid (qf.out w4 N4 (cells_of_blk P4 0 _ rfl) (cells_of_blk P4 1 _ rfl) (cells_of_blk P4 2 _ rfl) ⟨by omega, by omega⟩)
      rw [← hw4] at qf4
      have HW4 := Lib.hid hw4
      obtain ⟨B, hB⟩ : ∃ B, (mayB ⟨i, fi, cc, bb, pp, rr⟩ m && decide ((k : Int) = i ∧ f = fi ∧ p = pp)) = B := ⟨_, rfl⟩
      rw [hB] at qf4
      have HHH := Lib.hid HH
      have HB4 := Lib.hid B4
      have HP4 := Lib.hid P4
      have HN4 := Lib.hid N4
      have HBH := Lib.hid hbh
      have HB0 := Lib.hid hB
      clear hC hc hn HNN hw4 HH L4 B4 P4 N4 hbh hB qf HP HB hTr
      cases B with
      | false =>
        have hN := Lib.hid (hOff.out (fun hx => by
          have h9 := HB0.out
          rw [hx.1, hx.2.1, hx.2.2.1, hx.2.2.2] at h9
          simp at h9))
        clear hOff hOn hMc hOk qh HB0
        go_wp2_with fail
        refine qf4.out.mono ?_
        rintro e w5 ⟨rfl, hb5⟩
        rw [HW4.out] at hb5
        have HEND := Lib.hid (HL2.out.trans ((HB4.out.trans (hb5.mono (by omega))).mono (by have := HL2.out.size; have := HBP.out; omega)))
        clear hb5
        go_wp2_with fail
        go_ret2
        exact ⟨by rw [hN.out]; rfl, HEND.out⟩
      | true =>
        have hX := HB0.out
        simp only [Bool.and_eq_true, decide_eq_true_eq] at hX
        obtain ⟨hx0, hx1, hx2, hx3⟩ := hX
        have HON := Lib.hid (hOn.out ⟨hx0, hx1.symm, hx2.symm, hx3.symm⟩)
        have hOk2 := Lib.hid (hOk.out hx0)
        obtain ⟨hcc1, hcc2⟩ := hMc.out hx0
        subst hx1 hx2 hx3
        clear hOff hOn hMc hOk HB0 hx0
        go_wp2_with fail
        refine qf4.out.mono ?_
        rintro e w5 ⟨rfl, hb5⟩
        rw [HW4.out] at hb5
        have HH5 := blk_call HHH.out hb5
        have HP5 := blk_call HP4.out hb5
        have d0 : w5.cell? ⟨bh, 0, none⟩ = some (.int .i64 k) := cells_of_blk HH5 0 _ rfl
        have d1 : w5.cell? ⟨bh, 1, none⟩ = some (.int .i64 f) := cells_of_blk HH5 1 _ rfl
        have d2 : w5.cell? ⟨bh, 2, none⟩ = some (.int .i64 cc) := cells_of_blk HH5 2 _ rfl
        have d3 : w5.cell? ⟨bh, 3, none⟩ = some (.int .i64 bb) := cells_of_blk HH5 3 _ rfl
        have d4 : w5.cell? ⟨bh, 4, none⟩ = some (.string p) := cells_of_blk HH5 4 _ rfl
        have d5 : w5.cell? ⟨bh, 5, none⟩ = some (.string rr) := cells_of_blk HH5 5 _ rfl
        have HB5 := Lib.hid (HB4.out.trans (hb5.mono (by omega)))
        have HB5s := Lib.hid (show Below w2.heap.size w2 w5 by rw [HBP.out]; exact HB5.out)
        have N5 : w5.cell? ⟨w.heap.size, 0, none⟩ = some (.int .i64 m) := (hb5.cell (p := ⟨w.heap.size, 0, none⟩) (show w.heap.size < _ by omega)).trans HN4.out
        have hT5 := Lib.hid (hT2.out.call HB5s.out)
        have qh5 : Hid (∀ x : ExtOf w5, Calls Tryd.prog 18 #[.agg #[.int .i64 k, .int .i64 f, .int .i64 cc, .int .i64 bb, .string p, .string rr], .int .i64 m] x.w fun e w' => e = .returned (.string S) ∧ Below x.w.heap.size x.w w') := fun x => qh.out x.w (Lib.hid (hT5.out.call x.below)) (Lib.hid hOk2.out.fit)
        have HPP := Lib.hid HP5
        have S5 : bh < w5.heap.size := (Array.getElem?_eq_some_iff.1 HH5).1
        have S6 : w.heap.size < w5.heap.size := by omega
        clear hb5 HH5 HP5 HB4 HP4 HN4 qh hT5 HB5s qf4 HHH
        rw [HBH.out]
        go_wp2_with fail
        refine wp_region_ext_tail 12 (by kernel_rfl) (by kernel_rfl) ?_
        simp only [List.take_succ_cons, List.take_zero, List.drop_succ_cons, List.drop_zero]
        repeat (go_big_quiet_step (with_reducible exact ext_call (qh5.out _)))
        refine wpQuiet_nil ?_
        rintro w' ⟨y, rfl⟩
        have P6 : y.w.heap[bp]? = some (.cells #[.int .i64 k, .int .i64 f, .string p] 120 (0, 0)) := blk_call HPP.out y.below
        have HB6 := Lib.hid (HB5.out.trans (y.below.mono (by omega)))
        generalize y.w = w6 at *
        clear y d0 d1 d2 d3 d4 d5 N5
        have e0 := cells_of_blk P6 0 _ rfl
        have e1 := cells_of_blk P6 1 _ rfl
        have e2 := cells_of_blk P6 2 _ rfl
        have f0 := free_of_blk P6
        have HP6 := Lib.hid P6
        clear P6
        go_wp2_with fail
        go_roundw
        case rel => exact ⟨k + 1, _, _, by go_num, HON, by show _ ∧ _; omega, by show _ ≤ _; omega, ((HB6.out.setCell (p := ⟨bp, 0, none⟩) (Nat.le_refl _) _).setCell (p := ⟨bp, 1, none⟩) (Nat.le_refl _) _).setCell (p := ⟨bp, 2, none⟩) (Nat.le_refl _) _, set_blk (set_blk (set_blk HP6.out 0 _) 1 _) 2 _⟩
        case measure => simp [intOf]; omega
    · have hE := Lib.hid (chainR_end hC.out (show k = n by omega))
      have e2 : wr.cell? ⟨bp, 2, none⟩ = some (.string p) := cells_of_blk HP.out 2 _ rfl
      go_wp2_with fail
      go_ret2
      exact ⟨by rw [hE.out]; rfl, HL2.out.trans (HB.out.mono (by have := HL2.out.size; have := HBP.out; omega))⟩
end Go.Proofs.YtaigngdlioplaaaDoor
