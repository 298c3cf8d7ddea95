/- The head: the reference's Get. -/
import Derived.Test.YtaigngdlioplaaaDoorHeadJ
namespace Go.Proofs.YtaigngdlioplaaaDoor
open Go Go.RowKit

/-- Where the reference's Get stands. -/
structure RGetAt (w wr : World) (s : ByteArray) (cs : Array Value) (p : Nat) (f : Int) : Prop where
  low : Below w.heap.size w wr
  res : wr.heap[w.heap.size]? = some (.cells zeroH.cells 23 (0, 0))
  hd : wr.heap[w.heap.size + 1 + 1]? = some (.cells cs 23 (0, 0))
  rd : Ref wr (w.heap.size + 1) s p f
theorem RGetAt.lt {w wr : World} {s : ByteArray} {cs : Array Value} {p : Nat} {f : Int} (h : RGetAt w wr s cs p f) : w.heap.size + 1 + 1 < wr.heap.size := (Array.getElem?_eq_some_iff.1 h.hd).1
theorem RGetAt.ext {w wr wx : World} {s : ByteArray} {cs : Array Value} {p : Nat} {f : Int} (h : RGetAt w wr s cs p f) (hb : Below wr.heap.size wr wx) : RGetAt w wx s cs p f :=
  ⟨h.low.trans (hb.mono h.low.size), blk_call h.res hb, blk_call h.hd hb, blk_call h.rd hb⟩
theorem RGetAt.read {w wr wx : World} {s : ByteArray} {cs : Array Value} {p : Nat} {f : Int} (h : RGetAt w wr s cs p f) (hg : wr.grownBy wx (some (w.heap.size + 1))) {p' : Nat} {f' : Int} (hr : Ref wx (w.heap.size + 1) s p' f') : RGetAt w wx s cs p' f' := by
  have hl := h.lt
  refine ⟨h.low.grown hg h.low.size (fun k hk => by injection hk with hk; omega), ?_, ?_, hr⟩
  · exact (hg.block _ (by omega) (fun hk => by injection hk with hk; omega)).trans h.res
  · exact (hg.block _ (by omega) (fun hk => by injection hk with hk; omega)).trans h.hd
theorem RGetAt.set {w wr : World} {s : ByteArray} {cs : Array Value} {p : Nat} {f : Int} (h : RGetAt w wr s cs p f) (i : Nat) (v : Value) : RGetAt w (wr.setCell ⟨w.heap.size + 1 + 1, i, none⟩ v) s (cs.setIfInBounds i v) p f :=
  ⟨h.low.setCell (p := ⟨w.heap.size + 1 + 1, i, none⟩) (show w.heap.size ≤ w.heap.size + 1 + 1 by omega) v, set_oth h.res i v (by omega), set_blk h.hd i v, set_oth h.rd i v (by omega)⟩
theorem RGetAt.drewN {w wr : World} {s : ByteArray} {cs : Array Value} {p : Nat} {f : Int} (h : RGetAt w wr s cs p f) (n : Nat) : RGetAt w (wr.drewN n) s cs p f :=
  ⟨below_drewN h.low n, h.res, h.hd, h.rd⟩

set_option maxRecDepth 100000 in
set_option maxHeartbeats 1000000 in
theorem rHGet_any (s : ByteArray) (n : Int) (w : World) (hs : Hid (s.size ≤ 1099511627776)) (hn : Hid (1 ≤ n ∧ n ≤ 32)) :
    Calls Tryd.prog 25 #[.string s, .int .i64 n] w fun e w' => e = .returned (.tuple #[.agg (getH s n).cells, .int .i64 (errH s n)]) ∧ Below w.heap.size w w' := by
  have hnI : Hid (I64 n) := by have := hn.out; show _ ∧ _; omega
  have q0 : Hid (∀ wz, Hid (Ref wz (w.heap.size + 1) s (gH s 0).1 (gH s 0).2) → Calls Tryd.prog 73 #[.pointer (some ⟨w.heap.size + 1, 0, none⟩), .int .u64 1099511627776] wz fun e w' => e = .returned (.int .u64 (vH s 0)) ∧ Ref w' (w.heap.size + 1) s (gH s 1).1 (gH s 1).2 ∧ wz.grownBy w' (some (w.heap.size + 1))) :=
    fun wz h => FNum_nat (w.heap.size + 1) s (gH s 0).1 (gH s 0).2 (mostH 0) wz h hs (gH_le s 0)
  have q1 : Hid (∀ wz, Hid (Ref wz (w.heap.size + 1) s (gH s 1).1 (gH s 1).2) → Calls Tryd.prog 73 #[.pointer (some ⟨w.heap.size + 1, 0, none⟩), .int .u64 1099511627776] wz fun e w' => e = .returned (.int .u64 (vH s 1)) ∧ Ref w' (w.heap.size + 1) s (gH s 2).1 (gH s 2).2 ∧ wz.grownBy w' (some (w.heap.size + 1))) :=
    fun wz h => FNum_nat (w.heap.size + 1) s (gH s 1).1 (gH s 1).2 (mostH 1) wz h hs (gH_le s 1)
  have q2 : Hid (∀ wz, Hid (Ref wz (w.heap.size + 1) s (gH s 2).1 (gH s 2).2) → Calls Tryd.prog 73 #[.pointer (some ⟨w.heap.size + 1, 0, none⟩), .int .u64 64] wz fun e w' => e = .returned (.int .u64 (vH s 2)) ∧ Ref w' (w.heap.size + 1) s (gH s 3).1 (gH s 3).2 ∧ wz.grownBy w' (some (w.heap.size + 1))) :=
    fun wz h => FNum_nat (w.heap.size + 1) s (gH s 2).1 (gH s 2).2 (mostH 2) wz h hs (gH_le s 2)
  have q3 : Hid (∀ wz, Hid (Ref wz (w.heap.size + 1) s (gH s 3).1 (gH s 3).2) → Calls Tryd.prog 73 #[.pointer (some ⟨w.heap.size + 1, 0, none⟩), .int .u64 1099511627776] wz fun e w' => e = .returned (.int .u64 (vH s 3)) ∧ Ref w' (w.heap.size + 1) s (gH s 4).1 (gH s 4).2 ∧ wz.grownBy w' (some (w.heap.size + 1))) :=
    fun wz h => FNum_nat (w.heap.size + 1) s (gH s 3).1 (gH s 3).2 (mostH 3) wz h hs (gH_le s 3)
  have qP : Hid (∀ wz, Hid (Ref wz (w.heap.size + 1) s (gH s 4).1 (gH s 4).2) → Calls Tryd.prog 74 #[.pointer (some ⟨w.heap.size + 1, 0, none⟩), .int .i64 n] wz fun e w' => e = .returned (.string (rowP s n).1) ∧ Ref w' (w.heap.size + 1) s (rowP s n).2.1 (rowP s n).2.2 ∧ wz.grownBy w' (some (w.heap.size + 1))) :=
    fun wz h => FRow_any (w.heap.size + 1) s (gH s 4).1 (gH s 4).2 n wz h hs (gH_le s 4) hnI
  have qQ : Hid (∀ wz, Hid (Ref wz (w.heap.size + 1) s (rowP s n).2.1 (rowP s n).2.2) → Calls Tryd.prog 74 #[.pointer (some ⟨w.heap.size + 1, 0, none⟩), .int .i64 n] wz fun e w' => e = .returned (.string (rowR s n).1) ∧ Ref w' (w.heap.size + 1) s (rowR s n).2.1 (rowR s n).2.2 ∧ wz.grownBy w' (some (w.heap.size + 1))) :=
    fun wz h => FRow_any (w.heap.size + 1) s (rowP s n).2.1 (rowP s n).2.2 n wz h hs (rowP_le s n) hnI
  have qLf := Lib.hid (fun wz h => FLeft_any (w.heap.size + 1) s (rowR s n).2.1 (rowR s n).2.2 wz h hs (rowR_le s n))
  have qM := Lib.hid (fun wz => rMay_any (gotH s n) n wz)
  have hgc : Hid ((gotH s n).cells = #[.int .i64 (vH s 0), .int .i64 (vH s 1), .int .i64 (vH s 2), .int .i64 (vH s 3), .string (rowP s n).1, .string (rowR s n).1]) := rfl
  have hple := rowR_le s n
  have hE0 : Hid (¬ (rowR s n).2.2 = 0 → errH s n = (rowR s n).2.2 ∧ getH s n = zeroH) := fun h => by
    have h1 : errH s n = (rowR s n).2.2 := by
      unfold errH rFail
      rw [if_neg h]
      split <;> rfl
    exact ⟨h1, by unfold getH; rw [if_neg (by rw [h1]; exact h)]⟩
  have hE1 : Hid ((rowR s n).2.2 = 0 → 0 < (s.size : Int) - (rowR s n).2.1 → errH s n = 3 ∧ getH s n = zeroH) := fun h0 h => by
    have h1 : errH s n = 3 := by unfold errH rFail; rw [if_pos (Or.inl h), if_pos h0]
    exact ⟨h1, by unfold getH; rw [if_neg (by rw [h1]; decide)]⟩
  have hE2 : Hid ((rowR s n).2.2 = 0 → mayB (gotH s n) n = false → errH s n = 3 ∧ getH s n = zeroH) := fun h0 h => by
    have h1 : errH s n = 3 := by unfold errH rFail; rw [if_pos (Or.inr h), if_pos h0]
    exact ⟨h1, by unfold getH; rw [if_neg (by rw [h1]; decide)]⟩
  have hE3 : Hid ((rowR s n).2.2 = 0 → (s.size : Int) - (rowR s n).2.1 ≤ 0 → mayB (gotH s n) n = true → errH s n = 0 ∧ getH s n = gotH s n) := fun h0 h1 h2 => by
    have h3 : errH s n = 0 := by unfold errH; rw [if_neg (by rw [h2]; simp; omega)]; exact h0
    exact ⟨h3, by unfold getH; rw [if_pos h3]⟩
  have qR := Lib.hid (fun w => Of_any s w)
  have hn2 := hn.out
  have hs2 := hs.out
  obtain ⟨v0a, v0b⟩ := vH_val s 0
  obtain ⟨v1a, v1b⟩ := vH_val s 1
  obtain ⟨v2a, v2b⟩ := vH_val s 2
  obtain ⟨v3a, v3b⟩ := vH_val s 3
  go_enter Tryd.func25, Tryd.ntmps25
  go_wp2_with fail
  refine (qR.out _).mono ?_
  rintro e w2 ⟨rfl, hrd, hbl, hsz⟩
  have hsz' : w2.heap.size = w.heap.size + 1 + 1 := by rw [hsz]; simp
  have R0 : w2.heap[w.heap.size]? = some (.cells zeroH.cells 23 (0, 0)) := (hbl.block _ (by simp)).trans (blk_new _ _ _ rfl)
  have R2 : Ref w2 (w.heap.size + 1) s 0 0 := by have h9 := hrd; simp at h9; exact h9
  have RL : Below w.heap.size w w2 := below_to (below_alloc (Below.refl _ _) (Nat.le_refl _) _) hbl
  have G3 : Hid (RGetAt w (w2.alloc (.cells zeroH.cells 23)) s zeroH.cells (gH s 0).1 (gH s 0).2) := ⟨below_alloc RL RL.size _, blk_old R0 _, blk_new _ _ _ hsz'.symm, blk_old R2 _⟩
  clear hrd hbl hsz R0 R2 RL
  go_wp2_with fail
  refine (q0.out _ (Lib.hid G3.out.rd)).mono ?_
  rintro e w10 ⟨rfl, hr, hg⟩
  have G10 := Lib.hid (G3.out.read hg hr)
  have c := cells_of_blk G10.out.hd 0 _ rfl
  have f := free_of_blk G10.out.hd 0
  clear hr hg G3 q0
  go_wp2_with fail
  clear c f
  have H10 := Lib.hid (G10.out.set 0 (.int .i64 (vH s 0)))
  clear G10
  refine (q1.out _ (Lib.hid H10.out.rd)).mono ?_
  rintro e w11 ⟨rfl, hr, hg⟩
  have G11 := Lib.hid (H10.out.read hg hr)
  have c := cells_of_blk G11.out.hd 1 _ rfl
  have f := free_of_blk G11.out.hd 1
  clear hr hg H10 q1
  go_wp2_with fail
  clear c f
  have H11 := Lib.hid (G11.out.set 1 (.int .i64 (vH s 1)))
  clear G11
  refine (q2.out _ (Lib.hid H11.out.rd)).mono ?_
  rintro e w12 ⟨rfl, hr, hg⟩
  have G12 := Lib.hid (H11.out.read hg hr)
  have c := cells_of_blk G12.out.hd 2 _ rfl
  have f := free_of_blk G12.out.hd 2
  clear hr hg H11 q2
  go_wp2_with fail
  clear c f
  have H12 := Lib.hid (G12.out.set 2 (.int .i64 (vH s 2)))
  clear G12
  refine (q3.out _ (Lib.hid H12.out.rd)).mono ?_
  rintro e w13 ⟨rfl, hr, hg⟩
  have G13 := Lib.hid (H12.out.read hg hr)
  have c := cells_of_blk G13.out.hd 3 _ rfl
  have f := free_of_blk G13.out.hd 3
  clear hr hg H12 q3
  go_wp2_with fail
  clear c f
  have H13 := Lib.hid (G13.out.set 3 (.int .i64 (vH s 3)))
  clear G13
  refine (qP.out _ (Lib.hid H13.out.rd)).mono ?_
  rintro e w14 ⟨rfl, hr, hg⟩
  have G14 := Lib.hid (H13.out.read hg hr)
  have c := cells_of_blk G14.out.hd 4 _ rfl
  have f := free_of_blk G14.out.hd 4
  clear hr hg H13 qP
  go_wp2_with fail
  clear c f
  have H14 := Lib.hid (G14.out.set 4 (.string (rowP s n).1))
  clear G14
  refine (qQ.out _ (Lib.hid H14.out.rd)).mono ?_
  rintro e w15 ⟨rfl, hr, hg⟩
  have G15 := Lib.hid (H14.out.read hg hr)
  have c := cells_of_blk G15.out.hd 5 _ rfl
  have f := free_of_blk G15.out.hd 5
  have H15 : Hid (RGetAt w (w15.setCell ⟨w.heap.size + 1 + 1, 5, none⟩ (.string (rowR s n).1)) s (gotH s n).cells (rowR s n).2.1 (rowR s n).2.2) := Lib.hid (G15.out.set 5 (.string (rowR s n).1))
  have cE := cells_of_blk H15.out.rd 2 _ rfl
  obtain ⟨FF, hFF⟩ : ∃ FF, (rowR s n).2.2 = FF := ⟨_, rfl⟩
  obtain ⟨PP, hPP⟩ : ∃ PP, (rowR s n).2.1 = PP := ⟨_, rfl⟩
  rw [hFF] at hE0 hE1 hE2 hE3 H15 cE qLf
  rw [hPP] at hE1 hE3 H15 qLf hple
  clear hr hg H14 qQ G15 hFF hPP
  by_cases hF0 : FF = 0
  · subst hF0
    go_wp2_with fail
    generalize w15.setCell ⟨w.heap.size + 1 + 1, 5, none⟩ (.string (rowR s n).1) = w6 at *
    clear c f cE
    refine (qLf.out _ (Lib.hid H15.out.rd)).mono ?_
    rintro e w7 ⟨rfl, d, rfl⟩
    have G8 := Lib.hid (H15.out.drewN d)
    generalize World.drewN w6 d = w7 at *
    clear H15 qLf
    by_cases hleft : 0 < (s.size : Int) - PP
    · have HR := Lib.hid (hE1.out (by trivial) hleft)
      have GX := G8
      clear hE1 hE2 hE3 hE0 qM
      have k0 := cells_of_blk GX.out.res 0 _ rfl
      have k1 := cells_of_blk GX.out.res 1 _ rfl
      have k2 := cells_of_blk GX.out.res 2 _ rfl
      have k3 := cells_of_blk GX.out.res 3 _ rfl
      have k4 := cells_of_blk GX.out.res 4 _ rfl
      have k5 := cells_of_blk GX.out.res 5 _ rfl
      have z0 := free_of_blk GX.out.res 0
      have z1 := free_of_blk GX.out.res 1
      have z2 := free_of_blk GX.out.res 2
      have z3 := free_of_blk GX.out.res 3
      have z4 := free_of_blk GX.out.res 4
      have z5 := free_of_blk GX.out.res 5
      go_wp2_with fail
      refine bodyPost_ret (v := .tuple #[.agg zeroH.cells, .int .i64 3]) ?_ rfl ⟨by rw [HR.out.1, HR.out.2], ?_⟩
      · rw [results_cell_tmp rfl]; go_simp; rfl
      · refine Below.setCell (Below.setCell (Below.setCell (Below.setCell (Below.setCell (Below.setCell GX.out.low ?_ _) ?_ _) ?_ _) ?_ _) ?_ _) ?_ _
        all_goals exact Nat.le_refl _
    · have hd' := G8.out.hd
      rw [hgc.out] at hd'
      have g0 := cells_of_blk hd' 0 _ rfl
      have g1 := cells_of_blk hd' 1 _ rfl
      have g2 := cells_of_blk hd' 2 _ rfl
      have g3 := cells_of_blk hd' 3 _ rfl
      have g4 := cells_of_blk hd' 4 _ rfl
      have g5 := cells_of_blk hd' 5 _ rfl
      obtain ⟨MB, hMB⟩ : ∃ MB, mayB (gotH s n) n = MB := ⟨_, rfl⟩
      rw [hMB] at qM hE2 hE3
      clear hMB hE1 hE0 hd'
      go_wp2_with fail
      refine (qM.out _).mono ?_
      rintro e w8 ⟨rfl, hb8⟩
      have GX := Lib.hid (G8.out.ext hb8)
      clear hb8 G8 qM g0 g1 g2 g3 g4 g5
      have k0 := cells_of_blk GX.out.res 0 _ rfl
      have k1 := cells_of_blk GX.out.res 1 _ rfl
      have k2 := cells_of_blk GX.out.res 2 _ rfl
      have k3 := cells_of_blk GX.out.res 3 _ rfl
      have k4 := cells_of_blk GX.out.res 4 _ rfl
      have k5 := cells_of_blk GX.out.res 5 _ rfl
      have z0 := free_of_blk GX.out.res 0
      have z1 := free_of_blk GX.out.res 1
      have z2 := free_of_blk GX.out.res 2
      have z3 := free_of_blk GX.out.res 3
      have z4 := free_of_blk GX.out.res 4
      have z5 := free_of_blk GX.out.res 5
      cases MB with
      | false =>
        have HR := Lib.hid (hE2.out (by trivial) (by trivial))
        clear hE2 hE3
        go_wp2_with fail
        refine bodyPost_ret (v := .tuple #[.agg zeroH.cells, .int .i64 3]) ?_ rfl ⟨by rw [HR.out.1, HR.out.2], ?_⟩
        · rw [results_cell_tmp rfl]; go_simp; rfl
        · refine Below.setCell (Below.setCell (Below.setCell (Below.setCell (Below.setCell (Below.setCell GX.out.low ?_ _) ?_ _) ?_ _) ?_ _) ?_ _) ?_ _
          all_goals exact Nat.le_refl _
      | true =>
        have HR := Lib.hid (hE3.out (by trivial) (by omega) (by trivial))
        have hd' := GX.out.hd
        rw [hgc.out] at hd'
        have g0 := cells_of_blk hd' 0 _ rfl
        have g1 := cells_of_blk hd' 1 _ rfl
        have g2 := cells_of_blk hd' 2 _ rfl
        have g3 := cells_of_blk hd' 3 _ rfl
        have g4 := cells_of_blk hd' 4 _ rfl
        have g5 := cells_of_blk hd' 5 _ rfl
        clear hE2 hE3 hd'
        go_wp2_with fail
        refine bodyPost_ret (v := .tuple #[.agg (gotH s n).cells, .int .i64 0]) ?_ rfl ⟨by rw [HR.out.1, HR.out.2], ?_⟩
        · rw [results_cell_tmp rfl]; go_simp; rfl
        · refine Below.setCell (Below.setCell (Below.setCell (Below.setCell (Below.setCell (Below.setCell GX.out.low ?_ _) ?_ _) ?_ _) ?_ _) ?_ _) ?_ _
          all_goals exact Nat.le_refl _
  · have HR := Lib.hid (hE0.out hF0)
    clear hE0 hE1 hE2 hE3 qM qLf
    go_wp2_with fail
    generalize w15.setCell ⟨w.heap.size + 1 + 1, 5, none⟩ (.string (rowR s n).1) = w6 at *
    clear c f cE
    have k0 := cells_of_blk H15.out.res 0 _ rfl
    have k1 := cells_of_blk H15.out.res 1 _ rfl
    have k2 := cells_of_blk H15.out.res 2 _ rfl
    have k3 := cells_of_blk H15.out.res 3 _ rfl
    have k4 := cells_of_blk H15.out.res 4 _ rfl
    have k5 := cells_of_blk H15.out.res 5 _ rfl
    have z0 := free_of_blk H15.out.res 0
    have z1 := free_of_blk H15.out.res 1
    have z2 := free_of_blk H15.out.res 2
    have z3 := free_of_blk H15.out.res 3
    have z4 := free_of_blk H15.out.res 4
    have z5 := free_of_blk H15.out.res 5
    have cE := cells_of_blk H15.out.rd 2 _ rfl
    go_region
    go_wp2_with fail
    refine bodyPost_ret (v := .tuple #[.agg zeroH.cells, .int .i64 FF]) ?_ rfl ⟨by rw [HR.out.1, HR.out.2], ?_⟩
    · rw [results_cell_tmp rfl]; go_simp; rfl
    · refine Below.drew (Below.setCell (Below.setCell (Below.setCell (Below.setCell (Below.setCell (Below.setCell H15.out.low ?_ _) ?_ _) ?_ _) ?_ _) ?_ _) ?_ _)
      all_goals exact Nat.le_refl _
end Go.Proofs.YtaigngdlioplaaaDoor
