/- The tree: what comes out of a proof, by the reference. -/
import Derived.Test.YtaigngdlioplaaaDoorTreeK
namespace Go.Proofs.YtaigngdlioplaaaDoor
open Go Go.RowKit

theorem comesS_le (K : Nat → Int) (H : St) (n : Int) (h : ByteArray) (hh : h.size ≤ 1000000) (c k : Nat) (p : List ByteArray) : (comesS K H n h c k p).1.size ≤ 1000000 := by
  by_cases hc : c < 2
  · rw [comesS_one K H n h c k p hc]; exact hh
  · rcases snoc_cases p with rfl | ⟨q, o, rfl⟩
    · rw [comesS_none K H n h c k (by omega)]; exact Nat.zero_le _
    · by_cases ho : (o.size : Int) = n
      · by_cases hk : k < splitN c
        · rw [comesS_left K H n h c k q o (by omega) ho hk]
          have := cutS_le K H (⟨#[1]⟩ ++ (comesS K H n h (splitN c) k q).1 ++ o) n
          show (cutS K H _ n).size ≤ _
          omega
        · rw [comesS_right K H n h c k q o (by omega) ho hk]
          have := cutS_le K H (⟨#[1]⟩ ++ o ++ (comesS K H n h (c - splitN c) (k - splitN c) q).1) n
          show (cutS K H _ n).size ≤ _
          omega
      · rw [comesS_bad K H n h c k q o (by omega) ho]; exact Nat.zero_le _

set_option maxRecDepth 100000 in
set_option maxHeartbeats 1000000 in
theorem rComes_any (m : Nat) (h : ByteArray) (hm : Hid (1 ≤ m ∧ m ≤ 32)) (hh : Hid (h.size ≤ 1000000)) : ∀ (c : Nat) (p : List ByteArray) (k : Nat) (v : Value) (w : World), Hid (StrsAt w v p) → Hid (Fine p) → p.length ≤ 4096 → 1 ≤ c → c ≤ 4096 → k < c →
    Calls Tryd.prog 40 #[.agg key72, .string h, .int .i64 k, .int .i64 c, v, .int .i64 m] w fun e w' => e = .returned (.tuple #[.string (comesS (nth kList) hSt m h c k p).1, .bool (comesS (nth kList) hSt m h c k p).2]) ∧ Below w.heap.size w w' := by
  intro c
  induction c using Nat.strongRecOn with
  | _ c ih =>
    intro p k v w hv hF hp4 hc1 h4 hkc
    have hks := Lib.hid key72_size
    have HB0 : Hid (∀ o, Below w.heap.size w (w.alloc o)) := fun o => below_alloc (Below.refl _ _) (Nat.le_refl _) o
    obtain ⟨A, cap, rfl⟩ := hv.out.slice_len
    by_cases hc : c < 2
    · obtain rfl : c = 1 := by omega
      rw [comesS_one _ _ _ h 1 k p hc]
      simp only []
      generalize key72 = KA at *
      clear ih hv hF
      by_cases hp0 : p.length = 0
      · rw [decide_eq_true hp0, hp0]
        go_enter Tryd.func40, Tryd.ntmps40
        go_wp2_with fail
        go_ret2
        exact ⟨rfl, HB0.out _⟩
      · rw [decide_eq_false hp0]
        have hpz : ((p.length : Int) == 0) = false := by rw [beq_eq_false_iff_ne]; omega
        generalize p.length = P at *
        go_enter Tryd.func40, Tryd.ntmps40
        go_wp2_with fail
        go_ret2
        exact ⟨rfl, HB0.out _⟩
    · rcases snoc_cases p with rfl | ⟨q, o, rfl⟩
      · rw [comesS_none _ _ _ h c k (by omega)]
        simp only [List.length_nil]
        generalize key72 = KA at *
        clear ih hv hF
        go_enter Tryd.func40, Tryd.ntmps40
        go_wp2_with fail
        go_ret2
        exact ⟨rfl, HB0.out _⟩
      · have hql : (q ++ [o]).length = q.length + 1 := by simp
        have hlast : (q ++ [o])[q.length]? = some o := by simp
        obtain ⟨b, of, rfl, hb, hcell⟩ := hv.out.cells q.length o hlast
        have hos := hF.out q.length o hlast
        have hq0 : StrsAt w (.slice (some ⟨b, of, none⟩) q.length cap) q := by
          have := hv.out.head q.length (by omega)
          rwa [List.take_left] at this
        have hFq : Hid (Fine q) := by have := hF.out.take q.length; rwa [List.take_left] at this
        have hcapq : q.length + 1 ≤ cap := by
          obtain ⟨A', c', hvv, hcc, _⟩ := hv.out
          cases hvv
          omega
        obtain ⟨w1, hw1⟩ : ∃ w1, w.alloc (.cells key72 37) = w1 := ⟨_, rfl⟩
        have HW1 := Lib.hid hw1
        have HA : Hid (w1.heap[w.heap.size]? = some (.cells key72 37 (0, 0))) := by rw [← hw1]; exact blk_new _ _ _ rfl
        have HL : Hid (Below w.heap.size w w1) := by rw [← hw1]; exact below_alloc (Below.refl _ _) (Nat.le_refl _) _
        have hlt : w.heap.size < w1.heap.size := (Array.getElem?_eq_some_iff.1 HA.out).1
        have hc1' : w1.cell? ⟨b, of + q.length, none⟩ = some (.string o) := (HL.out.cell (p := ⟨b, of + q.length, none⟩) hb).trans hcell
        rw [hql]
        rw [hql] at hp4
        by_cases ho : (o.size : Int) = m
        · have hs := splitN_lt c (by omega)
          have q1 := Lib.hid (fun w => rSplit_any (c : Nat) w (by show _ ∧ _; omega))
          rw [show splitI (c : Nat) = (splitN c : Nat) by unfold splitI; rw [if_neg (by omega), Int.toNat_natCast]] at q1
          have zl := comesS_left (nth kList) hSt m h c k q o (by omega) ho
          have zr := comesS_right (nth kList) hSt m h c k q o (by omega) ho
          generalize splitN c = d at *
          obtain ⟨hd1, hd2⟩ := hs
          have q2 := Lib.hid (fun (hkd : k < d) (x : ExtOf w1) => ih d (by omega) q k (.slice (some ⟨b, of, none⟩) q.length cap) x.w (Lib.hid ((hq0.call HL.out).call x.below)) hFq (by omega) (by omega) (by omega) hkd)
          have q3 := Lib.hid (fun (hkd : ¬ k < d) (x : ExtOf w1) => ih (c - d) (by omega) q (k - d) (.slice (some ⟨b, of, none⟩) q.length cap) x.w (Lib.hid ((hq0.call HL.out).call x.below)) hFq (by omega) (by omega) (by omega) (by omega))
          have zs1 := comesS_le (nth kList) hSt m h hh.out d k q
          have zs2 := comesS_le (nth kList) hSt m h hh.out (c - d) (k - d) q
          have q4 := Lib.hid (fun w => rNode_any (comesS (nth kList) hSt m h d k q).1 o m w (by show _ ≤ _; omega) (by show _ ≤ _; omega) hm)
          have q5 := Lib.hid (fun w => rNode_any o (comesS (nth kList) hSt m h (c - d) (k - d) q).1 m w (by show _ ≤ _; omega) (by show _ ≤ _; omega) hm)
          have hkey : Hid (∀ w2, Below w1.heap.size w1 w2 → ∀ x : ExtOf w2, (loadVar 37 ⟨w.heap.size, 0, none⟩).run Tryd.prog x.w = .ok (.agg key72) x.w) := fun w2 hb2 x =>
            run_loadVar_row x.w w.heap.size 37 37 key72 (0, 0) _ ((x.below.block _ (by have := hb2.size; omega)).trans ((hb2.block _ hlt).trans HA.out)) Tryd.underlying37 rfl (by rw [hks.out]; kernel_rfl)
          have hb1 : b < w1.heap.size := by omega
          clear ih hv hF hw1 hcell hlast zs1 zs2 hql
          by_cases hkd : k < d
          · rw [zl hkd]
            have q2 := Lib.hid (q2.out hkd)
            clear zl zr q3 q5
            generalize (comesS (nth kList) hSt m h d k q).2 = B at *
            generalize nodeS (nth kList) hSt m (comesS (nth kList) hSt m h d k q).1 o = S at *
            generalize (comesS (nth kList) hSt m h d k q).1 = X at *
            generalize key72 = KA at *
            have hc0 := hc1'
            rw [← HW1.out] at hc0
            generalize q.length = Q at *
            go_enter Tryd.func40, Tryd.ntmps40
            go_wp2_with fail
            rw [HW1.out]
            refine (q1.out _).mono ?_
            rintro e w2 ⟨rfl, rfl⟩
            go_wp2_with fail
            refine wp_region_ext (by kernel_rfl) (by kernel_rfl) ?_
            refine BigFrame.wpQuiet_want rfl fun K hK => ?_
            refine quiet_load_row 37 (.tmp 6) rfl w.heap.size rfl KA (by rintro wz ⟨x, rfl⟩; exact hkey.out w1 (Below.refl _ _) x) (hK _ ?_)
            clear hK K
            simp only [Act.put, List.setIfInBounds_toArray, List.set_cons_succ, List.set_cons_zero]
            repeat (go_big_quiet_step (with_reducible exact ext_call (q2.out _)))
            refine wpQuiet_nil ?_
            rintro w' ⟨y, rfl⟩
            have HY := Lib.hid y.below
            generalize y.w = w2 at *
            clear y
            have hc2 : w2.cell? ⟨b, of + Q, none⟩ = some (.string o) := (HY.out.cell (p := ⟨b, of + Q, none⟩) hb1).trans hc1'
            have hb2 : b < w2.heap.size := by have := HY.out.size; omega
            clear hc1'
            go_wp2_with fail
            refine wp_region_ext (by kernel_rfl) (by kernel_rfl) ?_
            refine BigFrame.wpQuiet_want rfl fun K hK => ?_
            refine quiet_load_row 37 (.tmp 6) rfl w.heap.size rfl KA (by rintro wz ⟨x, rfl⟩; exact hkey.out w2 HY.out x) (hK _ ?_)
            clear hK K
            simp only [Act.put, List.setIfInBounds_toArray, List.set_cons_succ, List.set_cons_zero]
            repeat (go_big_quiet_step (with_reducible exact ext_call (q4.out _)))
            refine wpQuiet_nil ?_
            rintro w' ⟨y, rfl⟩
            have HEND := Lib.hid (HL.out.trans ((HY.out.trans (y.below.mono HY.out.size)).mono HL.out.size))
            go_wp2_with fail
            go_ret2
            exact ⟨rfl, HEND.out⟩
          · rw [zr hkd]
            have q3 := Lib.hid (q3.out hkd)
            have ekd : ((k - d : Nat) : Int) = (k : Int) - d := by omega
            have ecd : ((c - d : Nat) : Int) = (c : Int) - d := by omega
            rw [ekd, ecd] at q3
            clear zl zr q2 q4 ekd ecd
            generalize (comesS (nth kList) hSt m h (c - d) (k - d) q).2 = B at *
            generalize nodeS (nth kList) hSt m o (comesS (nth kList) hSt m h (c - d) (k - d) q).1 = S at *
            generalize (comesS (nth kList) hSt m h (c - d) (k - d) q).1 = X at *
            generalize key72 = KA at *
            have hc0 := hc1'
            rw [← HW1.out] at hc0
            generalize q.length = Q at *
            go_enter Tryd.func40, Tryd.ntmps40
            go_wp2_with fail
            rw [HW1.out]
            refine (q1.out _).mono ?_
            rintro e w2 ⟨rfl, rfl⟩
            go_wp2_with fail
            refine wp_region_ext (by kernel_rfl) (by kernel_rfl) ?_
            refine BigFrame.wpQuiet_want rfl fun K hK => ?_
            refine quiet_load_row 37 (.tmp 6) rfl w.heap.size rfl KA (by rintro wz ⟨x, rfl⟩; exact hkey.out w1 (Below.refl _ _) x) (hK _ ?_)
            clear hK K
            simp only [Act.put, List.setIfInBounds_toArray, List.set_cons_succ, List.set_cons_zero]
            repeat (go_big_quiet_step (with_reducible exact ext_call (q3.out _)))
            refine wpQuiet_nil ?_
            rintro w' ⟨y, rfl⟩
            have HY := Lib.hid y.below
            generalize y.w = w2 at *
            clear y
            have hc2 : w2.cell? ⟨b, of + Q, none⟩ = some (.string o) := (HY.out.cell (p := ⟨b, of + Q, none⟩) hb1).trans hc1'
            have hb2 : b < w2.heap.size := by have := HY.out.size; omega
            clear hc1'
            go_wp2_with fail
            refine wp_region_ext (by kernel_rfl) (by kernel_rfl) ?_
            refine BigFrame.wpQuiet_want rfl fun K hK => ?_
            refine quiet_load_row 37 (.tmp 6) rfl w.heap.size rfl KA (by rintro wz ⟨x, rfl⟩; exact hkey.out w2 HY.out x) (hK _ ?_)
            clear hK K
            simp only [Act.put, List.setIfInBounds_toArray, List.set_cons_succ, List.set_cons_zero]
            repeat (go_big_quiet_step (with_reducible exact ext_call (q5.out _)))
            refine wpQuiet_nil ?_
            rintro w' ⟨y, rfl⟩
            have HEND := Lib.hid (HL.out.trans ((HY.out.trans (y.below.mono HY.out.size)).mono HL.out.size))
            go_wp2_with fail
            go_ret2
            exact ⟨rfl, HEND.out⟩
        · rw [comesS_bad _ _ _ h c k q o (by omega) ho]
          simp only []
          generalize key72 = KA at *
          clear ih hv hF hq0 hFq hlast hql hw1
          rw [← HW1.out] at hc1'
          have hne : ((o.size : Int) != (m : Int)) = true := by rw [bne_iff_ne]; exact ho
          generalize q.length = Q at *
          go_enter Tryd.func40, Tryd.ntmps40
          go_wp2_with fail
          go_ret2
          exact ⟨rfl, HB0.out _⟩
end Go.Proofs.YtaigngdlioplaaaDoor
