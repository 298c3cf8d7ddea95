/- The walk of HeadPuts (printed by genHeadM.py). -/
import Derived.Test.YtaigngdlioplaaaDoorHeadL
namespace Go.Proofs.YtaigngdlioplaaaDoor
open Go Go.RowKit

theorem cutH_off (K : Nat → Int) (H : St) (s : ByteArray) (n : Int) (h : n < 1 ∨ 32 < n) : cutS K H s n = ⟨#[]⟩ := by unfold cutS; rw [if_pos h]

set_option maxRecDepth 100000 in
set_option maxHeartbeats 4000000 in
theorem HeadPuts_walk (h : Hd) (n : Int) (w : World) (hT : Hid (ShaT w (nth kList) hSt)) (hn : Hid (I64 n)) :
    Calls Tryd.prog 3 #[.agg h.cells, .int .i64 n] w fun e w' => e = .returned (.bool true) ∧ Below w.heap.size w w' := by
  have a0 := Lib.hid (fun w hT => alive08 w hT)
  have qG := Lib.hid (fun w => great_any h w)
  obtain ⟨w1, hw1⟩ : ∃ w1, w.alloc (.cells h.cells 23) = w1 := ⟨_, rfl⟩
  have D1 : Hid (w1.heap[w.heap.size]? = some (.cells h.cells 23 (0, 0))) := by rw [← hw1]; exact blk_new _ _ _ rfl
  have HB1 : Hid (Below w.heap.size w w1) := by rw [← hw1]; exact below_alloc (Below.refl _ _) (Nat.le_refl _) _
  have hT1 := Lib.hid (hT.out.call HB1.out)
  have HW1 := Lib.hid hw1
  have L1 : Hid (w.heap.size < w1.heap.size) := by rw [← hw1]; show w.heap.size < (w.alloc _).heap.size; simp
  clear hw1
  by_cases hgr : 100 < h.p.size ∨ 100 < h.r.size
  · rw [show decide (100 < h.p.size ∨ 100 < h.r.size) = true by simpa using hgr] at qG
    generalize nth kList = K at *
    generalize hSt = H at *
    clear hgr
    obtain ⟨i, f, c, b, p, r⟩ := h
    unfold Hd.cells at *
    simp only [] at *
    go_enter Tryd.func3, Tryd.ntmps3
    go_wp2_with fail
    rw [HW1.out]
    refine (a0.out _ hT1).mono ?_
    rintro e w2 ⟨rfl, hb⟩
    have HB2 := Lib.hid (HB1.out.trans (hb.mono HB1.out.size))
    have hT2 := Lib.hid (hT1.out.call hb)
    have D2 := Lib.hid (blk_call D1.out hb)
    clear hb
    have g0 := cells_of_blk D2.out 0 _ rfl
    have g1 := cells_of_blk D2.out 1 _ rfl
    have g2 := cells_of_blk D2.out 2 _ rfl
    have g3 := cells_of_blk D2.out 3 _ rfl
    have g4 := cells_of_blk D2.out 4 _ rfl
    have g5 := cells_of_blk D2.out 5 _ rfl
    go_wp2_with fail
    refine (qG.out _).mono ?_
    rintro e w3 ⟨rfl, hb⟩
    have HB3 := Lib.hid (HB2.out.trans (hb.mono HB2.out.size))
    have hT3 := Lib.hid (hT2.out.call hb)
    have D3 := Lib.hid (blk_call D2.out hb)
    clear hb
    clear g0 g1 g2 g3 g4 g5 
    go_wp2_with fail
    go_ret
    exact ⟨rfl, HB3.out⟩
  · rw [show decide (100 < h.p.size ∨ 100 < h.r.size) = false by simpa using hgr] at qG
    have hfit : Hid (HdFit h) := ⟨by omega, by omega⟩
    have q1 := Lib.hid (fun w => HPut_any h w hfit)
    have hps := putH_size h hfit.out
    clear hgr
    by_cases hoff : 1 ≤ n ∧ n ≤ 32
    · obtain ⟨m, rfl⟩ := Int.eq_ofNat_of_zero_le (show 0 ≤ n by omega)
      have hno : Hid (1 ≤ (m : Int) ∧ (m : Int) ≤ 32) := hoff
      have hmo : Hid (1 ≤ m ∧ m ≤ 32) := by show _ ∧ _; omega
      have q2 := Lib.hid (fun w => HGet_any (putH h) m w (by show _ ≤ _; omega) hno)
      have q3 := Lib.hid (fun w => May_any h m w hno)
      have q4 := Lib.hid (fun w => rMay_any h m w)
      have q5 := Lib.hid (fun w hT => HHash_any (nth kList) hSt h m w hT hn hfit)
      have q6 := Lib.hid (fun w => rHHash_any h m w hmo hfit)
      have q7 := Lib.hid (fun w hT => First_any (nth kList) hSt m w hT hn)
      have q8 := Lib.hid (fun w => rCut_any ⟨#[]⟩ m w (by show _ ≤ _; decide) hmo)
      have q9 := Lib.hid (fun w => rHPut_any h w hfit)
      have qK := Lib.hid (fun w => MakeKey_any w)
      have hks := Lib.hid key72_size
      have hon := Lib.hid key72_one
      have hd1 : decide ((m : Int) < 1) = false := by simp; omega
      have hd2 : decide ((m : Int) > 32) = false := by simp; omega
      have hgt := Lib.hid (fun hm => putH_got h m hm (by omega))
      have hmb := Lib.hid (fun x => @mayB_off h m x)
      generalize hashS (nth kList) hSt h m = S1 at *
      generalize cutS (nth kList) hSt ⟨#[]⟩ m = S2 at *
      generalize nth kList = K at *
      generalize hSt = H at *
      generalize key72 = KA at *
      have hbq1 : (S1.toList == S1.toList) = true := by simp
      have hbq2 : (S2.toList == S2.toList) = true := by simp
      have hbq3 : ((putH h).toList == (putH h).toList) = true := by simp
      obtain ⟨M, hM⟩ : ∃ M, mayB h m = M := ⟨_, rfl⟩
      rw [hM] at q3 q4
      clear hoff hps
      cases M with
      | true =>
        obtain ⟨hg1, hg2⟩ := hgt.out hM
        rw [hg2] at q2
        rw [show getH (putH h) m = h by unfold getH; rw [if_pos hg2, hg1]] at q2
        obtain ⟨hs1, hs2, hs3, hs4⟩ : 0 ≤ h.i ∧ 0 ≤ h.f ∧ 0 ≤ h.c ∧ 0 ≤ h.b := by
          refine ⟨?_, ?_, ?_, ?_⟩
          all_goals
            refine Classical.byContradiction fun hx => ?_
            have hy := hmb.out (by omega)
            rw [hM] at hy
            cases hy
        clear hg1 hg2 hgt hmb hM
        generalize putH h = X at *
        obtain ⟨i, f, c, b, p, r⟩ := h
        have hbq4 : (p.toList == p.toList) = true := by simp
        have hbq5 : (r.toList == r.toList) = true := by simp
        unfold Hd.cells at *
        simp only [] at *
        go_enter Tryd.func3, Tryd.ntmps3
        go_wp2_with fail
        rw [HW1.out]
        refine (a0.out _ hT1).mono ?_
        rintro e w2 ⟨rfl, hb⟩
        have HB2 := Lib.hid (HB1.out.trans (hb.mono HB1.out.size))
        have hT2 := Lib.hid (hT1.out.call hb)
        have D2 := Lib.hid (blk_call D1.out hb)
        clear hb
        have g0 := cells_of_blk D2.out 0 _ rfl
        have g1 := cells_of_blk D2.out 1 _ rfl
        have g2 := cells_of_blk D2.out 2 _ rfl
        have g3 := cells_of_blk D2.out 3 _ rfl
        have g4 := cells_of_blk D2.out 4 _ rfl
        have g5 := cells_of_blk D2.out 5 _ rfl
        go_wp2_with fail
        refine (qG.out _).mono ?_
        rintro e w3 ⟨rfl, hb⟩
        have HB3 := Lib.hid (HB2.out.trans (hb.mono HB2.out.size))
        have hT3 := Lib.hid (hT2.out.call hb)
        have D3 := Lib.hid (blk_call D2.out hb)
        clear hb
        clear g0 g1 g2 g3 g4 g5 
        have g0 := cells_of_blk D3.out 0 _ rfl
        have g1 := cells_of_blk D3.out 1 _ rfl
        have g2 := cells_of_blk D3.out 2 _ rfl
        have g3 := cells_of_blk D3.out 3 _ rfl
        have g4 := cells_of_blk D3.out 4 _ rfl
        have g5 := cells_of_blk D3.out 5 _ rfl
        go_wp2_with fail
        refine (q1.out _).mono ?_
        rintro e w4 ⟨rfl, hb⟩
        have HB4 := Lib.hid (HB3.out.trans (hb.mono HB3.out.size))
        have hT4 := Lib.hid (hT3.out.call hb)
        have D4 := Lib.hid (blk_call D3.out hb)
        clear g0 g1 g2 g3 g4 g5 hb
        go_wp2_with fail
        refine (q2.out _).mono ?_
        rintro e w5 ⟨rfl, hb⟩
        have HB5 := Lib.hid (HB4.out.trans (hb.mono HB4.out.size))
        have hT5 := Lib.hid (hT4.out.call hb)
        have D5 := Lib.hid (blk_call D4.out hb)
        clear hb
        go_wp2_with fail
        generalize hw6 : World.alloc w5 _ = w6
        have X6 : Hid (w6.heap[w5.heap.size]? = some (.cells #[.int .i64 i, .int .i64 f, .int .i64 c, .int .i64 b, .string p, .string r] 23 (0, 0))) := by rw [← hw6]; exact blk_new _ _ _ rfl
        have D6 : Hid (w6.heap[w.heap.size]? = some (.cells #[.int .i64 i, .int .i64 f, .int .i64 c, .int .i64 b, .string p, .string r] 23 (0, 0))) := by rw [← hw6]; exact blk_old D5.out _
        have HB6 : Hid (Below w.heap.size w w6) := by rw [← hw6]; exact below_alloc HB5.out HB5.out.size _
        have hT6 : Hid (ShaT w6 K H) := by rw [← hw6]; exact hT5.out.call (below_alloc (Below.refl _ _) (Nat.le_refl _) _)
        obtain ⟨b5, hb5⟩ : ∃ b5, w5.heap.size = b5 := ⟨_, rfl⟩
        rw [hb5] at X6 ⊢
        clear hw6 hb5
        refine (qK.out _).mono ?_
        rintro e w7 ⟨rfl, hb⟩
        have HB7 := Lib.hid (HB6.out.trans (hb.mono HB6.out.size))
        have hT7 := Lib.hid (hT6.out.call hb)
        have D7 := Lib.hid (blk_call D6.out hb)
        have X7 := Lib.hid (blk_call X6.out hb)
        clear hb
        go_wp2_with (refine wpList_store_rowTo rfl 37 (.tmp 8) (.tmp 51) rfl rfl w7.heap.size KA rfl rfl 37 _ (blk_new w7 _ _ rfl) (by rw [hks.out]; kernel_rfl) (by rw [hks.out]; rfl) hon.out ?_
                     obtain ⟨w8, hw8⟩ : ∃ w8, (w7.alloc (.cells Tryd.zeroCells37 37)).setRow w7.heap.size KA = w8 := ⟨_, rfl⟩
                     have HK8 : Hid (w8.heap[w7.heap.size]? = some (.cells KA 37 (0, 0))) := by rw [← hw8]; exact setRow_heap _ _ _ _ _ _ (blk_new w7 _ _ rfl)
                     have HB8 : Hid (Below w.heap.size w w8) := by rw [← hw8]; exact below_setRow (below_alloc HB7.out HB7.out.size _) HB7.out.size _
                     have HB78 : Hid (Below w7.heap.size w7 w8) := by rw [← hw8]; exact below_setRow (below_alloc (Below.refl _ _) (Nat.le_refl _) _) (Nat.le_refl _) _
                     have D8 := Lib.hid (blk_call D7.out HB78.out)
                     have X8 := Lib.hid (blk_call X7.out HB78.out)
                     have hT8 := Lib.hid (hT7.out.call HB78.out)
                     rw [hw8]
                     clear hw8)
        obtain ⟨k8, hk8⟩ : ∃ k8, w7.heap.size = k8 := ⟨_, rfl⟩
        rw [hk8] at HK8 ⊢
        clear hk8
        have l1 := (Array.getElem?_eq_some_iff.1 D8.out).1
        have l2 := (Array.getElem?_eq_some_iff.1 HK8.out).1
        have g0 := cells_of_blk D8.out 0 _ rfl
        have g1 := cells_of_blk D8.out 1 _ rfl
        have g2 := cells_of_blk D8.out 2 _ rfl
        have g3 := cells_of_blk D8.out 3 _ rfl
        have g4 := cells_of_blk D8.out 4 _ rfl
        have g5 := cells_of_blk D8.out 5 _ rfl
        have qE5 := Lib.hid (fun (x : ExtOf w8) => q5.out x.w (Lib.hid (hT8.out.call x.below)))
        have qE7 := Lib.hid (fun (x : ExtOf w8) => q7.out x.w (Lib.hid (hT8.out.call x.below)))
        refine wp_region_ext (by kernel_rfl) (by kernel_rfl) ?_
        repeat (first
          | (refine BigFrame.wpQuiet_want rfl fun K hK => ?_
             refine quiet_load_row 37 (.tmp 8) rfl k8 rfl KA ?_ (hK _ ?_)
             · rintro wz ⟨x, rfl⟩
               exact run_loadVar_row x.w k8 37 37 KA (0, 0) _ ((x.below.block _ (by omega)).trans HK8.out) Tryd.underlying37 rfl (by rw [hks.out]; kernel_rfl)
             clear hK K
             simp only [Act.put, List.setIfInBounds_toArray, List.set_cons_succ, List.set_cons_zero])
          | (go_big_quiet_step (first | (with_reducible exact ext_call (q3.out _)) | (with_reducible exact ext_call (q4.out _)) | (with_reducible exact ext_call (q6.out _)) | (with_reducible exact ext_call (q8.out _)) | (with_reducible exact ext_call (qE5.out _)) | (with_reducible exact ext_call (qE7.out _)))))
        refine wpQuiet_nil ?_
        rintro w' ⟨y, rfl⟩
        have HB9 := Lib.hid (HB8.out.trans (y.below.mono HB8.out.size))
        have D9 := Lib.hid (blk_call D8.out y.below)
        have X9 := Lib.hid (blk_call X8.out y.below)
        generalize y.w = w9 at *
        clear y l1 l2
        clear g0 g1 g2 g3 g4 g5 
        have g0 := cells_of_blk D9.out 0 _ rfl
        have g1 := cells_of_blk D9.out 1 _ rfl
        have g2 := cells_of_blk D9.out 2 _ rfl
        have g3 := cells_of_blk D9.out 3 _ rfl
        have g4 := cells_of_blk D9.out 4 _ rfl
        have g5 := cells_of_blk D9.out 5 _ rfl
        go_wp2_with fail
        refine (q9.out _).mono ?_
        rintro e w10 ⟨rfl, hb⟩
        have HB10 := Lib.hid (HB9.out.trans (hb.mono HB9.out.size))
        have D10 := Lib.hid (blk_call D9.out hb)
        have X10 := Lib.hid (blk_call X9.out hb)
        clear hb
        clear g0 g1 g2 g3 g4 g5 
        have g0 := cells_of_blk D10.out 0 _ rfl
        have g1 := cells_of_blk D10.out 1 _ rfl
        have g2 := cells_of_blk D10.out 2 _ rfl
        have g3 := cells_of_blk D10.out 3 _ rfl
        have g4 := cells_of_blk D10.out 4 _ rfl
        have g5 := cells_of_blk D10.out 5 _ rfl
        go_wp2_with fail
        refine (q4.out _).mono ?_
        rintro e w11 ⟨rfl, hb⟩
        have HB11 := Lib.hid (HB10.out.trans (hb.mono HB10.out.size))
        have D11 := Lib.hid (blk_call D10.out hb)
        have X11 := Lib.hid (blk_call X10.out hb)
        clear hb
        clear g0 g1 g2 g3 g4 g5 
        have g0 := cells_of_blk D11.out 0 _ rfl
        have g1 := cells_of_blk D11.out 1 _ rfl
        have g2 := cells_of_blk D11.out 2 _ rfl
        have g3 := cells_of_blk D11.out 3 _ rfl
        have g4 := cells_of_blk D11.out 4 _ rfl
        have g5 := cells_of_blk D11.out 5 _ rfl
        have x0 := cells_of_blk X11.out 0 _ rfl
        have x1 := cells_of_blk X11.out 1 _ rfl
        have x2 := cells_of_blk X11.out 2 _ rfl
        have x3 := cells_of_blk X11.out 3 _ rfl
        have x4 := cells_of_blk X11.out 4 _ rfl
        have x5 := cells_of_blk X11.out 5 _ rfl
        go_wp2_with fail
        go_ret
        exact ⟨rfl, HB11.out⟩
      | false =>
        have hsg : h.i < 0 ∨ (¬ h.i < 0 ∧ h.f < 0) ∨ (¬ h.i < 0 ∧ ¬ h.f < 0 ∧ h.c < 0) ∨ (¬ h.i < 0 ∧ ¬ h.f < 0 ∧ ¬ h.c < 0 ∧ h.b < 0) ∨ (¬ h.i < 0 ∧ ¬ h.f < 0 ∧ ¬ h.c < 0 ∧ ¬ h.b < 0) := by omega
        have HSG := Lib.hid hsg
        clear hgt hmb hM hsg
        generalize getH (putH h) m = x at *
        generalize errH (putH h) m = E at *
        generalize putH h = X at *
        obtain ⟨i, f, c, b, p, r⟩ := h
        obtain ⟨xi, xf, xc, xb, xp, xr⟩ := x
        unfold Hd.cells at *
        simp only [] at *
        go_enter Tryd.func3, Tryd.ntmps3
        go_wp2_with fail
        rw [HW1.out]
        refine (a0.out _ hT1).mono ?_
        rintro e w2 ⟨rfl, hb⟩
        have HB2 := Lib.hid (HB1.out.trans (hb.mono HB1.out.size))
        have hT2 := Lib.hid (hT1.out.call hb)
        have D2 := Lib.hid (blk_call D1.out hb)
        clear hb
        have g0 := cells_of_blk D2.out 0 _ rfl
        have g1 := cells_of_blk D2.out 1 _ rfl
        have g2 := cells_of_blk D2.out 2 _ rfl
        have g3 := cells_of_blk D2.out 3 _ rfl
        have g4 := cells_of_blk D2.out 4 _ rfl
        have g5 := cells_of_blk D2.out 5 _ rfl
        go_wp2_with fail
        refine (qG.out _).mono ?_
        rintro e w3 ⟨rfl, hb⟩
        have HB3 := Lib.hid (HB2.out.trans (hb.mono HB2.out.size))
        have hT3 := Lib.hid (hT2.out.call hb)
        have D3 := Lib.hid (blk_call D2.out hb)
        clear hb
        clear g0 g1 g2 g3 g4 g5 
        have g0 := cells_of_blk D3.out 0 _ rfl
        have g1 := cells_of_blk D3.out 1 _ rfl
        have g2 := cells_of_blk D3.out 2 _ rfl
        have g3 := cells_of_blk D3.out 3 _ rfl
        have g4 := cells_of_blk D3.out 4 _ rfl
        have g5 := cells_of_blk D3.out 5 _ rfl
        go_wp2_with fail
        refine (q1.out _).mono ?_
        rintro e w4 ⟨rfl, hb⟩
        have HB4 := Lib.hid (HB3.out.trans (hb.mono HB3.out.size))
        have hT4 := Lib.hid (hT3.out.call hb)
        have D4 := Lib.hid (blk_call D3.out hb)
        clear g0 g1 g2 g3 g4 g5 hb
        go_wp2_with fail
        refine (q2.out _).mono ?_
        rintro e w5 ⟨rfl, hb⟩
        have HB5 := Lib.hid (HB4.out.trans (hb.mono HB4.out.size))
        have hT5 := Lib.hid (hT4.out.call hb)
        have D5 := Lib.hid (blk_call D4.out hb)
        clear hb
        go_wp2_with fail
        generalize hw6 : World.alloc w5 _ = w6
        have X6 : Hid (w6.heap[w5.heap.size]? = some (.cells #[.int .i64 xi, .int .i64 xf, .int .i64 xc, .int .i64 xb, .string xp, .string xr] 23 (0, 0))) := by rw [← hw6]; exact blk_new _ _ _ rfl
        have D6 : Hid (w6.heap[w.heap.size]? = some (.cells #[.int .i64 i, .int .i64 f, .int .i64 c, .int .i64 b, .string p, .string r] 23 (0, 0))) := by rw [← hw6]; exact blk_old D5.out _
        have HB6 : Hid (Below w.heap.size w w6) := by rw [← hw6]; exact below_alloc HB5.out HB5.out.size _
        have hT6 : Hid (ShaT w6 K H) := by rw [← hw6]; exact hT5.out.call (below_alloc (Below.refl _ _) (Nat.le_refl _) _)
        obtain ⟨b5, hb5⟩ : ∃ b5, w5.heap.size = b5 := ⟨_, rfl⟩
        rw [hb5] at X6 ⊢
        clear hw6 hb5
        refine (qK.out _).mono ?_
        rintro e w7 ⟨rfl, hb⟩
        have HB7 := Lib.hid (HB6.out.trans (hb.mono HB6.out.size))
        have hT7 := Lib.hid (hT6.out.call hb)
        have D7 := Lib.hid (blk_call D6.out hb)
        have X7 := Lib.hid (blk_call X6.out hb)
        clear hb
        go_wp2_with (refine wpList_store_rowTo rfl 37 (.tmp 8) (.tmp 51) rfl rfl w7.heap.size KA rfl rfl 37 _ (blk_new w7 _ _ rfl) (by rw [hks.out]; kernel_rfl) (by rw [hks.out]; rfl) hon.out ?_
                     obtain ⟨w8, hw8⟩ : ∃ w8, (w7.alloc (.cells Tryd.zeroCells37 37)).setRow w7.heap.size KA = w8 := ⟨_, rfl⟩
                     have HK8 : Hid (w8.heap[w7.heap.size]? = some (.cells KA 37 (0, 0))) := by rw [← hw8]; exact setRow_heap _ _ _ _ _ _ (blk_new w7 _ _ rfl)
                     have HB8 : Hid (Below w.heap.size w w8) := by rw [← hw8]; exact below_setRow (below_alloc HB7.out HB7.out.size _) HB7.out.size _
                     have HB78 : Hid (Below w7.heap.size w7 w8) := by rw [← hw8]; exact below_setRow (below_alloc (Below.refl _ _) (Nat.le_refl _) _) (Nat.le_refl _) _
                     have D8 := Lib.hid (blk_call D7.out HB78.out)
                     have X8 := Lib.hid (blk_call X7.out HB78.out)
                     have hT8 := Lib.hid (hT7.out.call HB78.out)
                     rw [hw8]
                     clear hw8)
        obtain ⟨k8, hk8⟩ : ∃ k8, w7.heap.size = k8 := ⟨_, rfl⟩
        rw [hk8] at HK8 ⊢
        clear hk8
        have l1 := (Array.getElem?_eq_some_iff.1 D8.out).1
        have l2 := (Array.getElem?_eq_some_iff.1 HK8.out).1
        have g0 := cells_of_blk D8.out 0 _ rfl
        have g1 := cells_of_blk D8.out 1 _ rfl
        have g2 := cells_of_blk D8.out 2 _ rfl
        have g3 := cells_of_blk D8.out 3 _ rfl
        have g4 := cells_of_blk D8.out 4 _ rfl
        have g5 := cells_of_blk D8.out 5 _ rfl
        have qE5 := Lib.hid (fun (x : ExtOf w8) => q5.out x.w (Lib.hid (hT8.out.call x.below)))
        have qE7 := Lib.hid (fun (x : ExtOf w8) => q7.out x.w (Lib.hid (hT8.out.call x.below)))
        refine wp_region_ext (by kernel_rfl) (by kernel_rfl) ?_
        repeat (first
          | (refine BigFrame.wpQuiet_want rfl fun K hK => ?_
             refine quiet_load_row 37 (.tmp 8) rfl k8 rfl KA ?_ (hK _ ?_)
             · rintro wz ⟨x, rfl⟩
               exact run_loadVar_row x.w k8 37 37 KA (0, 0) _ ((x.below.block _ (by omega)).trans HK8.out) Tryd.underlying37 rfl (by rw [hks.out]; kernel_rfl)
             clear hK K
             simp only [Act.put, List.setIfInBounds_toArray, List.set_cons_succ, List.set_cons_zero])
          | (go_big_quiet_step (first | (with_reducible exact ext_call (q3.out _)) | (with_reducible exact ext_call (q4.out _)) | (with_reducible exact ext_call (q6.out _)) | (with_reducible exact ext_call (q8.out _)) | (with_reducible exact ext_call (qE5.out _)) | (with_reducible exact ext_call (qE7.out _)))))
        refine wpQuiet_nil ?_
        rintro w' ⟨y, rfl⟩
        have HB9 := Lib.hid (HB8.out.trans (y.below.mono HB8.out.size))
        have D9 := Lib.hid (blk_call D8.out y.below)
        have X9 := Lib.hid (blk_call X8.out y.below)
        generalize y.w = w9 at *
        clear y l1 l2
        clear g0 g1 g2 g3 g4 g5 
        have g0 := cells_of_blk D9.out 0 _ rfl
        have g1 := cells_of_blk D9.out 1 _ rfl
        have g2 := cells_of_blk D9.out 2 _ rfl
        have g3 := cells_of_blk D9.out 3 _ rfl
        have g4 := cells_of_blk D9.out 4 _ rfl
        have g5 := cells_of_blk D9.out 5 _ rfl
        rcases HSG.out with hs1 | ⟨hs1, hs2⟩ | ⟨hs1, hs2, hs3⟩ | ⟨hs1, hs2, hs3, hs4⟩ | ⟨hs1, hs2, hs3, hs4⟩
        iterate 4
          focus
            go_wp2_with fail
            refine (q4.out _).mono ?_
            rintro e w11 ⟨rfl, hb⟩
            have HB11 := Lib.hid (HB9.out.trans (hb.mono HB9.out.size))
            clear hb
            go_wp2_with fail
            go_ret
            exact ⟨rfl, HB11.out⟩
        go_wp2_with fail
        refine (q9.out _).mono ?_
        rintro e w10 ⟨rfl, hb⟩
        have HB10 := Lib.hid (HB9.out.trans (hb.mono HB9.out.size))
        have D10 := Lib.hid (blk_call D9.out hb)
        clear hb
        clear g0 g1 g2 g3 g4 g5 
        have g0 := cells_of_blk D10.out 0 _ rfl
        have g1 := cells_of_blk D10.out 1 _ rfl
        have g2 := cells_of_blk D10.out 2 _ rfl
        have g3 := cells_of_blk D10.out 3 _ rfl
        have g4 := cells_of_blk D10.out 4 _ rfl
        have g5 := cells_of_blk D10.out 5 _ rfl
        go_wp2_with fail
        refine (q4.out _).mono ?_
        rintro e w11 ⟨rfl, hb⟩
        have HB11 := Lib.hid (HB10.out.trans (hb.mono HB10.out.size))
        clear hb
        go_wp2_with fail
        go_ret
        exact ⟨rfl, HB11.out⟩
    · have q2 := Lib.hid (fun w => HGet_bad (putH h) n w hoff)
      have q3 := Lib.hid (fun w => May_bad h n w hoff)
      have q5 := Lib.hid (fun w hT => HHash_any (nth kList) hSt h n w hT hn hfit)
      have q7 := Lib.hid (fun w hT => First_any (nth kList) hSt n w hT hn)
      have hoff2 : n < 1 ∨ ¬ n < 1 ∧ 32 < n := by omega
      rw [show hashS (nth kList) hSt h n = ⟨#[]⟩ from cutH_off _ _ _ _ (by omega)] at q5
      rw [cutH_off _ _ _ _ (show n < 1 ∨ 32 < n by omega)] at q7
      generalize putH h = X at *
      generalize nth kList = K at *
      generalize hSt = H at *
      clear hoff hps
      obtain ⟨i, f, c, b, p, r⟩ := h
      unfold Hd.cells at *
      simp only [zeroH] at q2
      simp only [] at *
      rcases hoff2 with h1 | ⟨h1, h2⟩
      all_goals
        go_enter Tryd.func3, Tryd.ntmps3
        go_wp2_with fail
        rw [HW1.out]
        refine (a0.out _ hT1).mono ?_
        rintro e w2 ⟨rfl, hb⟩
        have HB2 := Lib.hid (HB1.out.trans (hb.mono HB1.out.size))
        have hT2 := Lib.hid (hT1.out.call hb)
        have D2 := Lib.hid (blk_call D1.out hb)
        clear hb
        have g0 := cells_of_blk D2.out 0 _ rfl
        have g1 := cells_of_blk D2.out 1 _ rfl
        have g2 := cells_of_blk D2.out 2 _ rfl
        have g3 := cells_of_blk D2.out 3 _ rfl
        have g4 := cells_of_blk D2.out 4 _ rfl
        have g5 := cells_of_blk D2.out 5 _ rfl
        go_wp2_with fail
        refine (qG.out _).mono ?_
        rintro e w3 ⟨rfl, hb⟩
        have HB3 := Lib.hid (HB2.out.trans (hb.mono HB2.out.size))
        have hT3 := Lib.hid (hT2.out.call hb)
        have D3 := Lib.hid (blk_call D2.out hb)
        clear hb
        clear g0 g1 g2 g3 g4 g5 
        have g0 := cells_of_blk D3.out 0 _ rfl
        have g1 := cells_of_blk D3.out 1 _ rfl
        have g2 := cells_of_blk D3.out 2 _ rfl
        have g3 := cells_of_blk D3.out 3 _ rfl
        have g4 := cells_of_blk D3.out 4 _ rfl
        have g5 := cells_of_blk D3.out 5 _ rfl
        go_wp2_with fail
        refine (q1.out _).mono ?_
        rintro e w4 ⟨rfl, hb⟩
        have HB4 := Lib.hid (HB3.out.trans (hb.mono HB3.out.size))
        have hT4 := Lib.hid (hT3.out.call hb)
        have D4 := Lib.hid (blk_call D3.out hb)
        clear g0 g1 g2 g3 g4 g5 hb
        go_wp2_with fail
        refine (q2.out _).mono ?_
        rintro e w5 ⟨rfl, hb⟩
        have HB5 := Lib.hid (HB4.out.trans (hb.mono HB4.out.size))
        have hT5 := Lib.hid (hT4.out.call hb)
        have D5 := Lib.hid (blk_call D4.out hb)
        clear hb
        have X6 : Hid ((w5.alloc (.cells #[.int .i64 0, .int .i64 0, .int .i64 0, .int .i64 0, .string ⟨#[]⟩, .string ⟨#[]⟩] 23)).heap[w5.heap.size]? = some (.cells #[.int .i64 0, .int .i64 0, .int .i64 0, .int .i64 0, .string ⟨#[]⟩, .string ⟨#[]⟩] 23 (0, 0))) := blk_new _ _ _ rfl
        have D6 : Hid ((w5.alloc (.cells #[.int .i64 0, .int .i64 0, .int .i64 0, .int .i64 0, .string ⟨#[]⟩, .string ⟨#[]⟩] 23)).heap[w.heap.size]? = some (.cells #[.int .i64 i, .int .i64 f, .int .i64 c, .int .i64 b, .string p, .string r] 23 (0, 0))) := blk_old D5.out _
        have HB6 : Hid (Below w.heap.size w (w5.alloc (.cells #[.int .i64 0, .int .i64 0, .int .i64 0, .int .i64 0, .string ⟨#[]⟩, .string ⟨#[]⟩] 23))) := below_alloc HB5.out HB5.out.size _
        have hT6 : Hid (ShaT (w5.alloc (.cells #[.int .i64 0, .int .i64 0, .int .i64 0, .int .i64 0, .string ⟨#[]⟩, .string ⟨#[]⟩] 23)) K H) := hT5.out.call (below_alloc (Below.refl _ _) (Nat.le_refl _) _)
        have g0 := cells_of_blk D6.out 0 _ rfl
        have g1 := cells_of_blk D6.out 1 _ rfl
        have g2 := cells_of_blk D6.out 2 _ rfl
        have g3 := cells_of_blk D6.out 3 _ rfl
        have g4 := cells_of_blk D6.out 4 _ rfl
        have g5 := cells_of_blk D6.out 5 _ rfl
        go_wp2_with fail
        refine (q3.out _).mono ?_
        rintro e w7 ⟨rfl, hb⟩
        have HB7 := Lib.hid (HB6.out.trans (hb.mono HB6.out.size))
        have hT7 := Lib.hid (hT6.out.call hb)
        have D7 := Lib.hid (blk_call D6.out hb)
        have X7 := Lib.hid (blk_call X6.out hb)
        clear g0 g1 g2 g3 g4 g5 hb
        have g0 := cells_of_blk D7.out 0 _ rfl
        have g1 := cells_of_blk D7.out 1 _ rfl
        have g2 := cells_of_blk D7.out 2 _ rfl
        have g3 := cells_of_blk D7.out 3 _ rfl
        have g4 := cells_of_blk D7.out 4 _ rfl
        have g5 := cells_of_blk D7.out 5 _ rfl
        go_wp2_with fail
        refine (q5.out _ hT7).mono ?_
        rintro e w8 ⟨rfl, hb⟩
        have HB8 := Lib.hid (HB7.out.trans (hb.mono HB7.out.size))
        have hT8 := Lib.hid (hT7.out.call hb)
        have D8 := Lib.hid (blk_call D7.out hb)
        have X8 := Lib.hid (blk_call X7.out hb)
        clear g0 g1 g2 g3 g4 g5 hb
        have g0 := cells_of_blk D8.out 0 _ rfl
        have g1 := cells_of_blk D8.out 1 _ rfl
        have g2 := cells_of_blk D8.out 2 _ rfl
        have g3 := cells_of_blk D8.out 3 _ rfl
        have g4 := cells_of_blk D8.out 4 _ rfl
        have g5 := cells_of_blk D8.out 5 _ rfl
        go_wp2_with fail
        refine (q7.out _ hT8).mono ?_
        rintro e w9 ⟨rfl, hb⟩
        have HB9 := Lib.hid (HB8.out.trans (hb.mono HB8.out.size))
        have hT9 := Lib.hid (hT8.out.call hb)
        have D9 := Lib.hid (blk_call D8.out hb)
        have X9 := Lib.hid (blk_call X8.out hb)
        clear g0 g1 g2 g3 g4 g5 hb
        have g0 := cells_of_blk D9.out 0 _ rfl
        have g1 := cells_of_blk D9.out 1 _ rfl
        have g2 := cells_of_blk D9.out 2 _ rfl
        have g3 := cells_of_blk D9.out 3 _ rfl
        have g4 := cells_of_blk D9.out 4 _ rfl
        have g5 := cells_of_blk D9.out 5 _ rfl
        have x0 := cells_of_blk X9.out 0 _ rfl
        have x1 := cells_of_blk X9.out 1 _ rfl
        have x2 := cells_of_blk X9.out 2 _ rfl
        have x3 := cells_of_blk X9.out 3 _ rfl
        have x4 := cells_of_blk X9.out 4 _ rfl
        have x5 := cells_of_blk X9.out 5 _ rfl
        go_wp2_with fail
        go_ret
        exact ⟨rfl, HB9.out⟩
end Go.Proofs.YtaigngdlioplaaaDoor
