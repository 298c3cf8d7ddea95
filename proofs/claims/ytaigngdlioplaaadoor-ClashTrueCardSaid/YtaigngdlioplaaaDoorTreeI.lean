/- The walk of TreeRoots. -/
import Derived.Test.YtaigngdlioplaaaDoorTreeH
namespace Go.Proofs.YtaigngdlioplaaaDoor
open Go Go.RowKit

theorem fine_of {l : List ByteArray} (h : ∀ (i : Nat) (s : ByteArray), l[i]? = some s → s.size ≤ 200) : Fine l := fun i s hs => by have := h i s hs; omega

set_option maxRecDepth 100000 in
set_option maxHeartbeats 2000000 in
theorem TreeRoots_walk (v : Value) (l : List ByteArray) (k n : Int) (w : World) (hT : Hid (ShaT w (nth kList) hSt)) (hv : Hid (StrsAt w v l)) (hl : l.length ≤ 9223372036854775807) (hz : Hid (∀ (i : Nat) (s : ByteArray), l[i]? = some s → s.size ≤ 9223372036854775807)) (hn : Hid (I64 n)) :
    Calls Tryd.prog 6 #[v, .int .i64 k, .int .i64 n] w fun e w' => e = .returned (.bool true) ∧ Below w.heap.size w w' := by
  have a0 := Lib.hid (alive03 (nth kList) hSt w hT)
  have qG := Lib.hid (fun w h => Great_any v l w h hl hz)
  obtain ⟨A, c, rfl⟩ := hv.out.slice_len
  have qPb := Lib.hid (fun w h => Proof_bad n A l.length c k w hl h)
  have qRt := Lib.hid (fun w h1 h2 h3 => Root_any (nth kList) hSt n l (.slice A l.length c) w hn h1 h2 h3 hl)
  by_cases hoff : n < 1 ∨ 32 < n
  · have e1 : rightE l.length n = 1 := by unfold rightE; rw [if_pos hoff]
    have e2 : proofE l.length k n = 1 := by unfold proofE; rw [if_neg (by rw [e1]; decide), e1]
    have e3 : rootV (nth kList) hSt n l = ⟨#[]⟩ := by unfold rootV; rw [if_neg (by rw [e1]; decide)]
    rw [e2] at qPb
    rw [e1, e3] at qRt
    have qPb2 := Lib.hid (fun w => qPb.out w (by decide))
    generalize nth kList = K at *
    generalize hSt = H at *
    clear e1 e2 e3 qPb
    have hFF : Hid (∀ g : Bool, (g = false → l.length ≤ 40 ∧ ∀ (i : Nat) (s : ByteArray), l[i]? = some s → s.size ≤ 200) → ¬ (g = true ∧ l.length ≤ 4096) → l.length ≤ 4096 → Hid (Fine l)) := fun g h1 h2 h3 => by
      cases g with
      | false => exact Lib.hid (fine_of (h1 rfl).2)
      | true => exact absurd ⟨rfl, h3⟩ h2
    obtain ⟨M, hM⟩ : ∃ M, l.length = M := ⟨_, rfl⟩
    rw [hM] at qG qPb2 qRt hFF hl ⊢
    have hv' : Hid (StrsAt w (.slice A M c) l) := by rw [← hM]; exact hv
    clear hM hv
    rcases hoff with hoff | hoff
    all_goals
      go_enter Tryd.func6, Tryd.ntmps6
      go_wp2_with fail
      refine a0.out.mono ?_
      rintro e w1 ⟨rfl, hb⟩
      have HB1 := Lib.hid hb
      have hT1 := Lib.hid (hT.out.call hb)
      have hv1 := Lib.hid (hv'.out.call hb)
      clear hb
      go_wp2_with fail
      refine (qG.out _ hv1).mono ?_
      rintro e w2 ⟨⟨g, rfl, hgf⟩, rfl⟩
      by_cases hg4 : g = true ∧ M ≤ 4096
      · obtain ⟨rfl, hg5⟩ := hg4
        go_wp2_with fail
        go_ret
        exact ⟨rfl, HB1.out⟩
      · have hF := hFF.out g hgf hg4
        have qr := Lib.hid (qRt.out _ hT1 hv1 hF)
        have hg5 : g = false ∨ 4096 < M := by
          cases g with
          | false => exact .inl rfl
          | true => exact .inr (Nat.lt_of_not_le fun h => hg4 ⟨rfl, h⟩)
        clear hF hgf hg4 hFF qRt
        rcases hg5 with rfl | hg5
        all_goals (try cases g)
        all_goals
          go_wp2_with fail
          refine qr.out.mono ?_
          rintro e w3 ⟨rfl, hb⟩
          have HB3 := Lib.hid (HB1.out.trans (hb.mono HB1.out.size))
          clear hb
          go_wp2_with fail
          refine (qPb2.out _).mono ?_
          rintro e w4 ⟨rfl, hb⟩
          have HB4 := Lib.hid (HB3.out.trans (hb.mono HB3.out.size))
          clear hb
          go_wp2_with fail
          go_ret
          exact ⟨rfl, HB4.out⟩
  · obtain ⟨m, rfl⟩ := Int.eq_ofNat_of_zero_le (show 0 ≤ n by omega)
    have hm : Hid (1 ≤ m ∧ m ≤ 32) := by show _ ∧ _; omega
    obtain ⟨hm1, hm2⟩ := hm.out
    by_cases h4 : 4096 < l.length
    · have e1 : rightE l.length m = 4 := by unfold rightE; rw [if_neg hoff, if_pos h4]
      have e2 : proofE l.length k m = 4 := by unfold proofE; rw [if_neg (by rw [e1]; decide), e1]
      have e3 : rootV (nth kList) hSt m l = ⟨#[]⟩ := by unfold rootV; rw [if_neg (by rw [e1]; decide)]
      rw [e2] at qPb
      rw [e1, e3] at qRt
      have qPb2 := Lib.hid (fun w => qPb.out w (by decide))
      have qr := Lib.hid (fun w h1 h2 => qRt.out w h1 h2 (fun h => by omega))
      generalize nth kList = K at *
      generalize hSt = H at *
      clear e1 e2 e3 qPb qRt
      have h4b : ¬ l.length ≤ 4096 := by omega
      generalize l.length = M at *
      go_enter Tryd.func6, Tryd.ntmps6
      go_wp2_with fail
      refine a0.out.mono ?_
      rintro e w1 ⟨rfl, hb⟩
      have HB1 := Lib.hid hb
      have hT1 := Lib.hid (hT.out.call hb)
      have hv1 := Lib.hid (hv.out.call hb)
      clear hb
      go_wp2_with fail
      refine (qG.out _ hv1).mono ?_
      rintro e w2 ⟨⟨g, rfl, hgf⟩, rfl⟩
      clear hgf
      cases g
      all_goals
        go_wp2_with fail
        refine (qr.out _ hT1 hv1).mono ?_
        rintro e w3 ⟨rfl, hb⟩
        have HB3 := Lib.hid (HB1.out.trans (hb.mono HB1.out.size))
        clear hb
        go_wp2_with fail
        refine (qPb2.out _).mono ?_
        rintro e w4 ⟨rfl, hb⟩
        have HB4 := Lib.hid (HB3.out.trans (hb.mono HB3.out.size))
        clear hb
        go_wp2_with fail
        go_ret
        exact ⟨rfl, HB4.out⟩
    · have e1 : rightE l.length m = 0 := by unfold rightE; rw [if_neg hoff, if_neg h4]
      have e3 : rootV (nth kList) hSt m l = rootS (nth kList) hSt m l := by unfold rootV; rw [if_pos e1]
      rw [e1, e3] at qRt
      have qK := Lib.hid (fun w => MakeKey_any w)
      have hks := Lib.hid key72_size
      have hon := Lib.hid key72_one
      have qRr := Lib.hid (fun w h1 h2 => rRoot_any m hm l.length l (.slice A l.length c) w rfl h1 h2 (by omega))
      by_cases hkr : k < 0 ∨ (l.length : Int) ≤ k
      · have e2 : proofE l.length k m = 11 := by unfold proofE; rw [if_pos e1, if_pos hkr]
        rw [e2] at qPb
        have qPb2 := Lib.hid (fun w => qPb.out w (by decide))
        clear e1 e2 e3 qPb hoff
        generalize rootS (nth kList) hSt m l = S at *
        generalize nth kList = K at *
        generalize hSt = H at *
        generalize key72 = KA at *
        have hbq : (S.toList == S.toList) = true := by simp
        obtain ⟨M, hM⟩ : ∃ M, l.length = M := ⟨_, rfl⟩
        rw [hM] at qG qPb2 qRt hl hkr qRr hv h4 ⊢
        clear hM
        have hkr2 : k < 0 ∨ ¬ k < 0 ∧ (M : Int) ≤ k := by omega
        clear hkr
        rcases hkr2 with hkr | ⟨hkr0, hkr⟩
        all_goals
          go_enter Tryd.func6, Tryd.ntmps6
          go_wp2_with fail
          refine a0.out.mono ?_
          rintro e w1 ⟨rfl, hb⟩
          have HB1 := Lib.hid hb
          have hT1 := Lib.hid (hT.out.call hb)
          have hv1 := Lib.hid (hv.out.call hb)
          clear hb
          go_wp2_with fail
          refine (qG.out _ hv1).mono ?_
          rintro e w2 ⟨⟨g, rfl, hgf⟩, rfl⟩
          cases g with
          | true =>
            clear hgf
            go_wp2_with fail
            go_ret
            exact ⟨rfl, HB1.out⟩
          | false =>
            have hF := Lib.hid (fine_of (hgf rfl).2)
            clear hgf
            go_wp2_with fail
            refine (qRt.out _ hT1 hv1 (fun _ => hF)).mono ?_
            rintro e w3 ⟨rfl, hb⟩
            have HB3 := Lib.hid (HB1.out.trans (hb.mono HB1.out.size))
            clear hb
            go_wp2_with fail
            refine (qPb2.out _).mono ?_
            rintro e w4 ⟨rfl, hb⟩
            have HB4 := Lib.hid (HB3.out.trans (hb.mono HB3.out.size))
            clear hb
            go_wp2_with fail
            refine (qK.out _).mono ?_
            rintro e w5 ⟨rfl, hb⟩
            have HB5 := Lib.hid (HB4.out.trans (hb.mono HB4.out.size))
            clear hb
            go_wp2_with (first
              | (refine wpList_load_row_g (by rfl) 37 (.tmp 11) rfl w5.heap.size rfl 37 KA (0, 0) _ HK6.out Tryd.underlying37 rfl (by rw [hks.out]; kernel_rfl) ?_)
              | (refine wpList_store_rowTo rfl 37 (.tmp 11) (.tmp 73) rfl rfl w5.heap.size KA rfl rfl 37 _ (blk_new w5 _ _ rfl) (by rw [hks.out]; kernel_rfl) (by rw [hks.out]; rfl) hon.out ?_
                 obtain ⟨w6, hw6⟩ : ∃ w6, (w5.alloc (.cells Tryd.zeroCells37 37)).setRow w5.heap.size KA = w6 := ⟨_, rfl⟩
                 have HK6 : Hid (w6.heap[w5.heap.size]? = some (.cells KA 37 (0, 0))) := by rw [← hw6]; exact setRow_heap _ _ _ _ _ _ (blk_new w5 _ _ rfl)
                 have HB6 : Hid (Below w.heap.size w w6) := by rw [← hw6]; exact below_setRow (below_alloc HB5.out HB5.out.size _) HB5.out.size _
                 rw [hw6]
                 clear hw6))
            refine (qRr.out _ (Lib.hid (hv.out.call HB6.out)) hF).mono ?_
            rintro e w7 ⟨rfl, hb⟩
            have HB7 := Lib.hid (HB6.out.trans (hb.mono HB6.out.size))
            clear hb
            go_wp2_with fail
            go_ret
            exact ⟨rfl, HB7.out⟩
      · obtain ⟨kn, rfl⟩ := Int.eq_ofNat_of_zero_le (show 0 ≤ k by omega)
        have hkn : kn < l.length := by omega
        have qPg := Lib.hid (fun w h1 h2 h3 => Proof_good (nth kList) hSt m l kn (.slice A l.length c) w hn h1 h2 h3 (by omega) e1 hkn)
        have qPr := Lib.hid (fun w h1 h2 => rProof_any m hm l.length l kn (.slice A l.length c) w rfl h1 h2 (by omega) hkn)
        have hzl : Hid ((proofS (nth kList) hSt m l kn).length ≤ 9223372036854775807) := by
          have h1 := (proof_climbs (nth kList) hSt m hm.out.1 hm.out.2 l.length kn l rfl hkn).1
          have h3 := waysS_len kn l.length
          show _ ≤ _
          omega
        have qS := Lib.hid (fun v1 v2 w h1 h2 => Same_any v1 v2 (proofS (nth kList) hSt m l kn) (proofS (nth kList) hSt m l kn) w h1 h2 hzl.out)
        rw [decide_eq_true rfl] at qS
        clear e1 e3 qPb hoff hkr
        generalize proofS (nth kList) hSt m l kn = Z at *
        generalize rootS (nth kList) hSt m l = S at *
        generalize nth kList = K at *
        generalize hSt = H at *
        generalize key72 = KA at *
        have hbq : (S.toList == S.toList) = true := by simp
        obtain ⟨M, hM⟩ : ∃ M, l.length = M := ⟨_, rfl⟩
        rw [hM] at qG qPg qRt hl hkn qRr hv h4 qPr ⊢
        clear hM
        have hk0 : ¬ ((kn : Int) < 0) := by omega
        have hk1 : ¬ ((M : Int) ≤ (kn : Int)) := by omega
        go_enter Tryd.func6, Tryd.ntmps6
        go_wp2_with fail
        refine a0.out.mono ?_
        rintro e w1 ⟨rfl, hb⟩
        have HB1 := Lib.hid hb
        have hT1 := Lib.hid (hT.out.call hb)
        have hv1 := Lib.hid (hv.out.call hb)
        clear hb
        go_wp2_with fail
        refine (qG.out _ hv1).mono ?_
        rintro e w2 ⟨⟨g, rfl, hgf⟩, rfl⟩
        cases g with
        | true =>
          clear hgf
          go_wp2_with fail
          go_ret
          exact ⟨rfl, HB1.out⟩
        | false =>
          have hF := Lib.hid (fine_of (hgf rfl).2)
          clear hgf
          go_wp2_with fail
          refine (qRt.out _ hT1 hv1 (fun _ => hF)).mono ?_
          rintro e w3 ⟨rfl, hb⟩
          have HB3 := Lib.hid (HB1.out.trans (hb.mono HB1.out.size))
          clear hb
          go_wp2_with fail
          refine (qPg.out _ (Lib.hid (hT.out.call HB3.out)) (Lib.hid (hv.out.call HB3.out)) hF).mono ?_
          rintro e w4 ⟨⟨v', rfl, ho⟩, hb⟩
          have HB4 := Lib.hid (HB3.out.trans (hb.mono HB3.out.size))
          have hS4 := Lib.hid (own_strs ho)
          clear hb ho
          go_wp2_with fail
          refine (qK.out _).mono ?_
          rintro e w5 ⟨rfl, hb⟩
          have HB5 := Lib.hid (HB4.out.trans (hb.mono HB4.out.size))
          have hS5 := Lib.hid (hS4.out.call hb)
          clear hb hS4
          go_wp2_with (first
            | (refine wpList_load_row_g (by rfl) 37 (.tmp 11) rfl w5.heap.size rfl 37 KA (0, 0) _ HK6.out Tryd.underlying37 rfl (by rw [hks.out]; kernel_rfl) ?_)
            | (refine wpList_store_rowTo rfl 37 (.tmp 11) (.tmp 73) rfl rfl w5.heap.size KA rfl rfl 37 _ (blk_new w5 _ _ rfl) (by rw [hks.out]; kernel_rfl) (by rw [hks.out]; rfl) hon.out ?_
               obtain ⟨w6, hw6⟩ : ∃ w6, (w5.alloc (.cells Tryd.zeroCells37 37)).setRow w5.heap.size KA = w6 := ⟨_, rfl⟩
               have HK6 : Hid (w6.heap[w5.heap.size]? = some (.cells KA 37 (0, 0))) := by rw [← hw6]; exact setRow_heap _ _ _ _ _ _ (blk_new w5 _ _ rfl)
               have HX6 : Hid (Below w5.heap.size w5 w6) := by rw [← hw6]; exact below_setRow (below_alloc (Below.refl _ _) (Nat.le_refl _) _) (Nat.le_refl _) _
               rw [hw6]
               clear hw6))
          have HB6 := Lib.hid (HB5.out.trans (HX6.out.mono HB5.out.size))
          have hS6 := Lib.hid (hS5.out.call HX6.out)
          refine (qRr.out _ (Lib.hid (hv.out.call HB6.out)) hF).mono ?_
          rintro e w7 ⟨rfl, hb⟩
          have HB7 := Lib.hid (HB6.out.trans (hb.mono HB6.out.size))
          have hS7 := Lib.hid (hS6.out.call hb)
          have HK7 := Lib.hid (blk_call HK6.out hb)
          clear hb hS6 HK6
          go_wp2_with (refine wpList_load_row_g (by rfl) 37 (.tmp 11) rfl w5.heap.size rfl 37 KA (0, 0) _ HK7.out Tryd.underlying37 rfl (by rw [hks.out]; kernel_rfl) ?_)
          refine (qPr.out _ (Lib.hid (hv.out.call HB7.out)) hF).mono ?_
          rintro e w8 ⟨⟨v8, rfl, ho⟩, hb⟩
          have HB8 := Lib.hid (HB7.out.trans (hb.mono HB7.out.size))
          have hS8 := Lib.hid (hS7.out.call hb)
          have hR8 := Lib.hid (own_strs ho)
          clear hb ho hS7
          go_wp2_with fail
          refine (qS.out _ _ _ hS8 hR8).mono ?_
          rintro e w9 ⟨rfl, hb⟩
          have HB9 := Lib.hid (HB8.out.trans (hb.mono HB8.out.size))
          clear hb
          go_wp2_with fail
          go_ret
          exact ⟨rfl, HB9.out⟩
end Go.Proofs.YtaigngdlioplaaaDoor
