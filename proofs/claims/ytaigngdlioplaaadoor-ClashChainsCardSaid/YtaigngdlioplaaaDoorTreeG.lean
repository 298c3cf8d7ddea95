/- The tree: the reference's proof. -/
import Derived.Test.YtaigngdlioplaaaDoorTreeF
namespace Go.Proofs.YtaigngdlioplaaaDoor
open Go Go.RowKit

set_option maxRecDepth 100000 in
set_option maxHeartbeats 1000000 in
theorem rProof_any (m : Nat) (hm : Hid (1 ≤ m ∧ m ≤ 32)) : ∀ (c : Nat) (l : List ByteArray) (k : Nat) (v : Value) (w : World), l.length = c → Hid (StrsAt w v l) → Hid (Fine l) → c ≤ 4096 → k < c →
    Calls Tryd.prog 38 #[.agg key72, v, .int .i64 k, .int .i64 m] w fun e w' => (∃ v', e = .returned v' ∧ w'.ownsRow w.heap.size 9 1 v' (proofS (nth kList) hSt m l k).length ((proofS (nth kList) hSt m l k).map Value.string)) ∧ Below w.heap.size w w' := by
  intro c
  induction c using Nat.strongRecOn with
  | _ c ih =>
    intro l k v w hc hv hF h4 hkc
    have hks := Lib.hid key72_size
    have HB0 : Hid (∀ o, Below w.heap.size w (w.alloc o)) := fun o => below_alloc (Below.refl _ _) (Nat.le_refl _) o
    by_cases h2 : c < 2
    · rw [proofS_one _ _ _ l k (by omega)]
      obtain ⟨A, cap, rfl, _, _⟩ := hv.out
      rw [hc]
      clear ih hv hF
      generalize key72 = KA at *
      go_enter Tryd.func38, Tryd.ntmps38
      go_wp2_with fail
      go_ret
      exact ⟨⟨_, rfl, World.ownsRow_nil _ _ _ _⟩, HB0.out _⟩
    · have hs := splitN_lt l.length (by omega)
      have q1 := Lib.hid (fun w => rSplit_any (l.length : Nat) w (by show _ ∧ _; omega))
      rw [show splitI (l.length : Nat) = (splitN l.length : Nat) by unfold splitI; rw [if_neg (by omega), Int.toNat_natCast]] at q1
      have zl := proofS_left (nth kList) hSt m l k (by omega)
      have zr := proofS_right (nth kList) hSt m l k (by omega)
      generalize hK : splitN l.length = d at *
      have l1 : (l.take d).length = d := by rw [List.length_take]; omega
      have l2 : (l.drop d).length = c - d := by rw [List.length_drop]; omega
      obtain ⟨A, cap, rfl, hcap, hi⟩ := hv.out
      obtain ⟨s0, hs0⟩ : ∃ s0, l[0]? = some s0 := ⟨l[0], List.getElem?_eq_getElem (by omega)⟩
      obtain ⟨b, o, rfl, _, _⟩ := hi 0 s0 hs0
      obtain ⟨w1, hw1⟩ : ∃ w1, w.alloc (.cells key72 37) = w1 := ⟨_, rfl⟩
      have HW1 := Lib.hid hw1
      have HA : Hid (w1.heap[w.heap.size]? = some (.cells key72 37 (0, 0))) := by rw [← hw1]; exact blk_new _ _ _ rfl
      have HL : Hid (Below w.heap.size w w1) := by rw [← hw1]; exact below_alloc (Below.refl _ _) (Nat.le_refl _) _
      have hlt : w.heap.size < w1.heap.size := (Array.getElem?_eq_some_iff.1 HA.out).1
      have hv1 := hv.out.call HL.out
      have q2 := Lib.hid (fun (h : k < d) (x : ExtOf w1) => ih d (by omega) (l.take d) k (.slice (some ⟨b, o, none⟩) d cap) x.w l1 (Lib.hid ((hv1.head d (by omega)).call x.below)) (Lib.hid (hF.out.take d)) (by omega) h)
      have q3 := Lib.hid (fun (h : ¬ k < d) (x : ExtOf w1) => ih (c - d) (by omega) (l.drop d) (k - d) (.slice (some ⟨b, o + d, none⟩) (c - d) (cap - d)) x.w l2 (by have := (hv1.drop d (by omega)).call x.below; rw [hc] at this; exact this) (Lib.hid (hF.out.drop d)) (by omega) (by omega))
      have q4 := Lib.hid (fun (x : ExtOf w1) => rRoot_any m hm d (l.take d) (.slice (some ⟨b, o, none⟩) d cap) x.w l1 (Lib.hid ((hv1.head d (by omega)).call x.below)) (Lib.hid (hF.out.take d)) (by omega))
      have q5 := Lib.hid (fun (x : ExtOf w1) => rRoot_any m hm (c - d) (l.drop d) (.slice (some ⟨b, o + d, none⟩) (c - d) (cap - d)) x.w l2 (by have := (hv1.drop d (by omega)).call x.below; rw [hc] at this; exact this) (Lib.hid (hF.out.drop d)) (by omega))
      have hkey : Hid (∀ wz, (∃ x : ExtOf w1, wz = x.w) → (loadVar 37 ⟨w.heap.size, 0, none⟩).run Tryd.prog wz = .ok (.agg key72) wz) := fun wz ⟨x, hx⟩ => by
        subst hx
        exact run_loadVar_row x.w w.heap.size 37 37 key72 (0, 0) _ ((x.below.block _ hlt).trans HA.out) Tryd.underlying37 rfl (by rw [hks.out]; kernel_rfl)
      obtain ⟨hd1, hd2⟩ := hs
      have zl1 : Hid (k < d → (proofS (nth kList) hSt m (l.take d) k).length ≤ 4096) := fun h => by
        have h1 := (proof_climbs (nth kList) hSt m hm.out.1 hm.out.2 d k (l.take d) l1 h).1
        have h3 := waysS_len k d
        omega
      have zr1 : Hid (¬ k < d → (proofS (nth kList) hSt m (l.drop d) (k - d)).length ≤ 4096) := fun h => by
        have h1 := (proof_climbs (nth kList) hSt m hm.out.1 hm.out.2 (c - d) (k - d) (l.drop d) l2 (by omega)).1
        have h3 := waysS_len (k - d) (c - d)
        omega
      rw [hc] at q1 hd2 hcap ⊢
      by_cases hkd : k < d
      · have q2 := Lib.hid (q2.out hkd)
        have zl1 := Lib.hid (zl1.out hkd)
        rw [zl hkd]
        clear hi hv hF ih hK hc l1 l2 hs0 hv1 hw1 q3 q4 zl zr zr1
        generalize proofS (nth kList) hSt m (l.take d) k = Z at *
        generalize rootS (nth kList) hSt m (l.drop d) = S2 at *
        generalize key72 = KA at *
        go_enter Tryd.func38, Tryd.ntmps38
        go_wp2_with fail
        refine (q1.out _).mono ?_
        rintro e w2 ⟨rfl, rfl⟩
        go_wp2_with fail
        rw [HW1.out]
        refine wp_region_pure [0, 1, 2, 3, 4, 5, 7, 8, 9, 10, 11] [6, 12, 13, 14, 15] (by kernel_rfl) (by kernel_rfl) (fun w' => ∃ x : ExtOf w1, w' = x.w) ⟨⟨w1.drew, (Below.refl _ _).drew⟩, rfl⟩ ?_
        simp only [opsAt, List.getElem?_toArray, List.getElem?_cons_zero, List.getElem?_cons_succ]
        refine pure_row 37 (.tmp 4) rfl rfl w.heap.size rfl KA hkey.out ?_
        refine pure_move rfl rfl ?_
        refine pure_move rfl rfl ?_
        refine pure_at (.slice (some ⟨b, o, none⟩) d cap) rfl (fun wz _ => by unfold execOp; go_simp; intro h; omega) ?_
        refine pure_move rfl rfl ?_
        refine pure_move rfl rfl ?_
        refine pure_row 37 (.tmp 4) rfl rfl w.heap.size rfl KA hkey.out ?_
        refine pure_move rfl rfl ?_
        refine pure_move rfl rfl ?_
        refine pure_at (.slice (some ⟨b, o + d, none⟩) (c - d) (cap - d)) rfl (fun wz _ => by unfold execOp; go_simp; rw [if_pos (show d ≤ c by omega), if_neg (show ¬ cap = d by omega)]) ?_
        refine pure_move rfl rfl ?_
        unfold wpPure
        go_simp
        refine wpListC_cons rfl ?_
        go_wp2_with fail
        refine (q2.out ⟨w1.drew, (Below.refl _ _).drew⟩).mono ?_
        rintro e w3 ⟨⟨v', rfl, ho⟩, hb⟩
        have B3 : Below w1.heap.size w1 w3 := (Below.refl _ w1).drew.trans hb
        have hb3 := B3.size
        have ho3 : Hid (w3.ownsRow w1.heap.size 9 1 v' Z.length (Z.map Value.string)) := ho
        clear ho hb
        go_wp2_with fail
        rw [StepQ_normal]
        refine ⟨⟨⟨w3, B3⟩, rfl⟩, ?_⟩
        refine wpListC_cons rfl ?_
        go_wp2_with fail
        refine (q5.out ⟨w3, B3⟩).mono ?_
        rintro e w4 ⟨rfl, hb⟩
        have B4 : Below w1.heap.size w1 w4 := B3.trans (hb.mono hb3)
        have hb4 := B4.size
        have ho4 := Lib.hid (ho3.out.call hb)
        clear ho3 hb B3
        go_wp2_with fail
        rw [StepQ_normal]
        refine ⟨⟨⟨w4, B4⟩, rfl⟩, ?_⟩
        refine wpListC_cons rfl ?_
        go_wp2_with fail
        rw [StepQ_normal]
        refine ⟨⟨⟨_, below_alloc B4 hb4 _⟩, rfl⟩, ?_⟩
        refine wpListC_cons rfl ?_
        go_wp2_with (at_builtin; refine wpList_append_grow _ _ _ _ _ _ el_tx _ _ _ _ ho4 hb4 rfl rfl rfl rfl rfl (by have := zl1.out; omega) (by decide) ?_; intro v6 w6 ho6 hg6)
        have B6 : Below w1.heap.size w1 w6 := B4.trans (app_keeps ho4.out hb4 hg6.out).2
        rw [StepQ_normal]
        refine ⟨⟨⟨w6, B6⟩, rfl⟩, ?_⟩
        refine wpListC_cons rfl ?_
        go_wp2_with fail
        rw [StepQ_normal]
        refine ⟨⟨⟨w6, B6⟩, rfl⟩, ?_⟩
        unfold wpListC
        rw [OnlyN_normal]
        have HE := Lib.hid (HL.out.trans (B6.mono (by omega)))
        clear hg6 ho4 B6 B4
        go_wp2_with fail
        go_ret
        exact ⟨⟨_, rfl, by rw [List.length_append, List.map_append]; exact own_base ho6.out (by omega)⟩, HE.out⟩
      · have q3 := Lib.hid (q3.out hkd)
        have zr1 := Lib.hid (zr1.out hkd)
        rw [zr hkd]
        have ekd : ((k - d : Nat) : Int) = (k : Int) - d := by omega
        rw [ekd] at q3
        clear hi hv hF ih hK hc l1 l2 hs0 hv1 hw1 q2 q5 zl zr zl1 ekd
        generalize proofS (nth kList) hSt m (l.drop d) (k - d) = Z at *
        generalize rootS (nth kList) hSt m (l.take d) = S2 at *
        generalize key72 = KA at *
        go_enter Tryd.func38, Tryd.ntmps38
        go_wp2_with fail
        refine (q1.out _).mono ?_
        rintro e w2 ⟨rfl, rfl⟩
        go_wp2_with fail
        rw [HW1.out]
        refine wp_region_pure [0, 1, 2, 3, 4, 5, 6, 7, 9, 10, 11, 12, 13] [8, 14, 15, 16, 17] (by kernel_rfl) (by kernel_rfl) (fun w' => ∃ x : ExtOf w1, w' = x.w) ⟨⟨w1.drew, (Below.refl _ _).drew⟩, rfl⟩ ?_
        simp only [opsAt, List.getElem?_toArray, List.getElem?_cons_zero, List.getElem?_cons_succ]
        refine pure_row 37 (.tmp 4) rfl rfl w.heap.size rfl KA hkey.out ?_
        refine pure_move rfl rfl ?_
        refine pure_move rfl rfl ?_
        refine pure_at (.slice (some ⟨b, o + d, none⟩) (c - d) (cap - d)) rfl (fun wz _ => by unfold execOp; go_simp; rw [if_pos (show d ≤ c by omega), if_neg (show ¬ cap = d by omega)]) ?_
        refine pure_move rfl rfl ?_
        refine pure_move rfl rfl ?_
        refine pure_at (.int .i64 ((k : Int) - d)) rfl (fun wz _ => by unfold execOp; go_simp; simp only [IntKind.wrap_i64]; omega) ?_
        refine pure_move rfl rfl ?_
        simp only [Act.put, List.setIfInBounds_toArray, List.set_cons_succ, List.set_cons_zero]
        refine pure_row 37 (.tmp 4) rfl rfl w.heap.size rfl KA hkey.out ?_
        refine pure_move rfl rfl ?_
        refine pure_move rfl rfl ?_
        refine pure_at (.slice (some ⟨b, o, none⟩) d cap) rfl (fun wz _ => by unfold execOp; go_simp; intro h; omega) ?_
        refine pure_move rfl rfl ?_
        unfold wpPure
        go_simp
        refine wpListC_cons rfl ?_
        go_wp2_with fail
        refine (q3.out ⟨w1.drew, (Below.refl _ _).drew⟩).mono ?_
        rintro e w3 ⟨⟨v', rfl, ho⟩, hb⟩
        have B3 : Below w1.heap.size w1 w3 := (Below.refl _ w1).drew.trans hb
        have hb3 := B3.size
        have ho3 : Hid (w3.ownsRow w1.heap.size 9 1 v' Z.length (Z.map Value.string)) := ho
        clear ho hb
        go_wp2_with fail
        rw [StepQ_normal]
        refine ⟨⟨⟨w3, B3⟩, rfl⟩, ?_⟩
        refine wpListC_cons rfl ?_
        go_wp2_with fail
        refine (q4.out ⟨w3, B3⟩).mono ?_
        rintro e w4 ⟨rfl, hb⟩
        have B4 : Below w1.heap.size w1 w4 := B3.trans (hb.mono hb3)
        have hb4 := B4.size
        have ho4 := Lib.hid (ho3.out.call hb)
        clear ho3 hb B3
        go_wp2_with fail
        rw [StepQ_normal]
        refine ⟨⟨⟨w4, B4⟩, rfl⟩, ?_⟩
        refine wpListC_cons rfl ?_
        go_wp2_with fail
        rw [StepQ_normal]
        refine ⟨⟨⟨_, below_alloc B4 hb4 _⟩, rfl⟩, ?_⟩
        refine wpListC_cons rfl ?_
        go_wp2_with (at_builtin; refine wpList_append_grow _ _ _ _ _ _ el_tx _ _ _ _ ho4 hb4 rfl rfl rfl rfl rfl (by have := zr1.out; omega) (by decide) ?_; intro v6 w6 ho6 hg6)
        have B6 : Below w1.heap.size w1 w6 := B4.trans (app_keeps ho4.out hb4 hg6.out).2
        rw [StepQ_normal]
        refine ⟨⟨⟨w6, B6⟩, rfl⟩, ?_⟩
        refine wpListC_cons rfl ?_
        go_wp2_with fail
        rw [StepQ_normal]
        refine ⟨⟨⟨w6, B6⟩, rfl⟩, ?_⟩
        unfold wpListC
        rw [OnlyN_normal]
        have HE := Lib.hid (HL.out.trans (B6.mono (by omega)))
        clear hg6 ho4 B6 B4
        go_wp2_with fail
        go_ret
        exact ⟨⟨_, rfl, by rw [List.length_append, List.map_append]; exact own_base ho6.out (by omega)⟩, HE.out⟩
end Go.Proofs.YtaigngdlioplaaaDoor
