/- The tree: Proof of what may not be; the reference's root. -/
import Derived.Test.YtaigngdlioplaaaDoorTreeD
import Derived.Test.YtaigngdlioplaaaDoorRegP
namespace Go.Proofs.YtaigngdlioplaaaDoor
open Go Go.RowKit

set_option maxRecDepth 100000 in
set_option maxHeartbeats 1000000 in
theorem Proof_bad (n : Int) (A : Option Addr) (M c : Nat) (k : Int) (w : World) (hM : M ≤ 9223372036854775807) (hb : proofE M k n ≠ 0) :
    Calls Tryd.prog 35 #[.slice A M c, .int .i64 k, .int .i64 n] w fun e w' => e = .returned (.tuple #[.slice none 0 0, .int .i64 (proofE M k n)]) ∧ Below w.heap.size w w' := by
  have q1 := Lib.hid (fun w => right_any A M c n w hM)
  unfold proofE at hb ⊢
  by_cases h0 : rightE M n = 0
  · rw [if_pos h0] at hb ⊢
    rw [h0] at q1
    clear h0
    by_cases h1 : k < 0
    · rw [if_pos (Or.inl h1)]
      clear hb
      go_enter Tryd.func35, Tryd.ntmps35
      go_wp2_with fail
      refine (q1.out _).mono ?_
      rintro e w1 ⟨rfl, rfl⟩
      go_wp2_with fail
      go_ret2
      exact ⟨rfl, Below.refl _ _⟩
    · by_cases h2 : (M : Int) ≤ k
      · rw [if_pos (Or.inr h2)]
        clear hb
        go_enter Tryd.func35, Tryd.ntmps35
        go_wp2_with fail
        refine (q1.out _).mono ?_
        rintro e w1 ⟨rfl, rfl⟩
        go_wp2_with fail
        go_ret2
        exact ⟨rfl, Below.refl _ _⟩
      · rw [if_neg (by omega)] at hb
        exact absurd rfl hb
  · rw [if_neg h0] at hb ⊢
    generalize rightE M n = E at *
    clear h0
    go_enter Tryd.func35, Tryd.ntmps35
    go_wp2_with fail
    refine (q1.out _).mono ?_
    rintro e w1 ⟨rfl, rfl⟩
    go_wp2_with fail
    go_ret2
    exact ⟨rfl, Below.refl _ _⟩

set_option maxRecDepth 100000 in
set_option maxHeartbeats 1000000 in
theorem rRoot_any (m : Nat) (hm : Hid (1 ≤ m ∧ m ≤ 32)) : ∀ (k : Nat) (l : List ByteArray) (v : Value) (w : World), l.length = k → Hid (StrsAt w v l) → Hid (Fine l) → k ≤ 4096 →
    Calls Tryd.prog 36 #[.agg key72, v, .int .i64 m] w fun e w' => e = .returned (.string (rootS (nth kList) hSt m l)) ∧ Below w.heap.size w w' := by
  intro k
  induction k using Nat.strongRecOn with
  | _ k ih =>
    intro l v w hk hv hF h4
    have hks := Lib.hid key72_size
    by_cases h0 : k = 0
    · rw [rootS_nil _ _ _ l (by omega)]
      have q := Lib.hid (fun w => rCut_any ⟨#[]⟩ m w (by show _ ≤ _; decide) hm)
      obtain ⟨A, c, rfl, hc, hi⟩ := hv.out
      have hl : l.length = 0 := by omega
      clear ih hi hv hF
      generalize cutS (nth kList) hSt ⟨#[]⟩ m = S at *
      generalize key72 = KA at *
      rw [hl]
      obtain ⟨w1, hw1⟩ : ∃ w1, w.alloc (.cells KA 37) = w1 := ⟨_, rfl⟩
      have HW1 := Lib.hid hw1
      have HA : Hid (w1.heap[w.heap.size]? = some (.cells KA 37 (0, 0))) := by rw [← hw1]; exact blk_new _ _ _ rfl
      have HL : Hid (Below w.heap.size w w1) := by rw [← hw1]; exact below_alloc (Below.refl _ _) (Nat.le_refl _) _
      clear hw1
      go_enter Tryd.func36, Tryd.ntmps36
      go_wp2_with (rw [HW1.out]; refine wpList_load_row rfl 37 (.tmp 3) rfl w.heap.size rfl 37 KA (0, 0) _ HA.out Tryd.underlying37 rfl (by rw [hks.out]; kernel_rfl) ?_)
      refine (q.out _).mono ?_
      rintro e w2 ⟨rfl, hb⟩
      have HB2 := Lib.hid (HL.out.trans (hb.mono HL.out.size))
      clear hb
      go_wp2_with fail
      go_ret
      exact ⟨rfl, HB2.out⟩
    · by_cases h1 : k = 1
      · have hl : l.length = 1 := by omega
        rw [rootS_one _ _ _ l hl]
        obtain ⟨A, c, rfl, hc, hi⟩ := hv.out
        have e0 : l[0]? = some (l[0]'(by omega)) := List.getElem?_eq_getElem _
        obtain ⟨b, o, rfl, hb, hcell⟩ := hi 0 _ e0
        have hz := hF.out 0 _ e0
        have q := Lib.hid (fun w => rLeaf_any (l[0]'(by omega)) m w (by show _ ≤ _; omega) hm)
        rw [Nat.add_zero] at hcell
        clear ih hi hv hF e0
        generalize leafS (nth kList) hSt m (l[0]'(by omega)) = S at *
        generalize l[0]'(by omega) = s at *
        generalize key72 = KA at *
        rw [hl]
        obtain ⟨w1, hw1⟩ : ∃ w1, w.alloc (.cells KA 37) = w1 := ⟨_, rfl⟩
        have HW1 := Lib.hid hw1
        have HA : Hid (w1.heap[w.heap.size]? = some (.cells KA 37 (0, 0))) := by rw [← hw1]; exact blk_new _ _ _ rfl
        have HL : Hid (Below w.heap.size w w1) := by rw [← hw1]; exact below_alloc (Below.refl _ _) (Nat.le_refl _) _
        have hc1 : w1.cell? ⟨b, o, none⟩ = some (.string s) := (HL.out.cell (p := ⟨b, o, none⟩) hb).trans hcell
        have hlt : w.heap.size < w1.heap.size := (Array.getElem?_eq_some_iff.1 HA.out).1
        have hb1 : b < w1.heap.size := by omega
        clear hw1 hcell
        go_enter Tryd.func36, Tryd.ntmps36
        go_wp2_with fail
        rw [HW1.out]
        refine wp_region_ext (by kernel_rfl) (by kernel_rfl) ?_
        refine BigFrame.wpQuiet_want rfl fun K hK => ?_
        refine quiet_load_row 37 (.tmp 3) rfl w.heap.size rfl KA ?_ (hK _ ?_)
        · rintro wz ⟨x, rfl⟩
          exact run_loadVar_row x.w w.heap.size 37 37 KA (0, 0) _ ((x.below.block _ hlt).trans HA.out) Tryd.underlying37 rfl (by rw [hks.out]; kernel_rfl)
        clear hK K
        simp only [Act.put, List.setIfInBounds_toArray, List.set_cons_succ, List.set_cons_zero]
        repeat (go_big_quiet_step (with_reducible exact ext_call (q.out _)))
        refine wpQuiet_nil ?_
        rintro w' ⟨y, rfl⟩
        have HEND := Lib.hid (HL.out.trans (y.below.mono HL.out.size))
        go_wp2_with fail
        go_ret
        exact ⟨rfl, HEND.out⟩
      · have h2 : 2 ≤ l.length := by omega
        have hs := splitN_lt l.length h2
        rw [rootS_two _ _ _ l h2]
        have q1 := Lib.hid (fun w => rSplit_any (l.length : Nat) w (by show _ ∧ _; omega))
        rw [show splitI (l.length : Nat) = (splitN l.length : Nat) by unfold splitI; rw [if_neg (by omega), Int.toNat_natCast]] at q1
        generalize hK : splitN l.length = d at *
        have l1 : (l.take d).length = d := by rw [List.length_take]; omega
        have l2 : (l.drop d).length = k - d := by rw [List.length_drop]; omega
        obtain ⟨A, c, rfl, hc, hi⟩ := hv.out
        obtain ⟨s0, hs0⟩ : ∃ s0, l[0]? = some s0 := ⟨l[0], List.getElem?_eq_getElem (by omega)⟩
        obtain ⟨b, o, rfl, _, _⟩ := hi 0 s0 hs0
        have z1 := rootS_le (nth kList) hSt m (l.take d)
        have z2 := rootS_le (nth kList) hSt m (l.drop d)
        obtain ⟨w1, hw1⟩ : ∃ w1, w.alloc (.cells key72 37) = w1 := ⟨_, rfl⟩
        have HW1 := Lib.hid hw1
        have HA : Hid (w1.heap[w.heap.size]? = some (.cells key72 37 (0, 0))) := by rw [← hw1]; exact blk_new _ _ _ rfl
        have HL : Hid (Below w.heap.size w w1) := by rw [← hw1]; exact below_alloc (Below.refl _ _) (Nat.le_refl _) _
        have hlt : w.heap.size < w1.heap.size := (Array.getElem?_eq_some_iff.1 HA.out).1
        have hv1 := hv.out.call HL.out
        have q2 := Lib.hid (fun (x : ExtOf w1) => ih d (by omega) (l.take d) (.slice (some ⟨b, o, none⟩) d c) x.w l1 (Lib.hid ((hv1.head d (by omega)).call x.below)) (Lib.hid (hF.out.take d)) (by omega))
        have q3 := Lib.hid (fun (x : ExtOf w1) => ih (k - d) (by omega) (l.drop d) (.slice (some ⟨b, o + d, none⟩) (k - d) (c - d)) x.w l2 (by have := (hv1.drop d (by omega)).call x.below; rw [hk] at this; exact this) (Lib.hid (hF.out.drop d)) (by omega))
        have q4 := Lib.hid (fun w => rNode_any (rootS (nth kList) hSt m (l.take d)) (rootS (nth kList) hSt m (l.drop d)) m w (by show _ ≤ _; omega) (by show _ ≤ _; omega) hm)
        obtain ⟨hd1, hd2⟩ := hs
        rw [hk] at q1 hd2 hc ⊢
        clear hi hv hF ih hK z1 z2 hk l1 l2 h2 hs0 hv1 hw1
        generalize nodeS (nth kList) hSt m (rootS (nth kList) hSt m (l.take d)) (rootS (nth kList) hSt m (l.drop d)) = S at *
        generalize rootS (nth kList) hSt m (l.take d) = S1 at *
        generalize rootS (nth kList) hSt m (l.drop d) = S2 at *
        generalize key72 = KA at *
        go_enter Tryd.func36, Tryd.ntmps36
        go_wp2_with fail
        refine (q1.out _).mono ?_
        rintro e w2 ⟨rfl, rfl⟩
        go_wp2_with fail
        rw [HW1.out]
        refine wp_region_ext (by kernel_rfl) (by kernel_rfl) ?_
        have hkey : Hid (∀ x : ExtOf w1, (loadVar 37 ⟨w.heap.size, 0, none⟩).run Tryd.prog x.w = .ok (.agg KA) x.w) := fun x =>
          run_loadVar_row x.w w.heap.size 37 37 KA (0, 0) _ ((x.below.block _ hlt).trans HA.out) Tryd.underlying37 rfl (by rw [hks.out]; kernel_rfl)
        refine BigFrame.wpQuiet_want rfl fun K hK => ?_
        refine quiet_load_row 37 (.tmp 3) rfl w.heap.size rfl KA (by rintro wz ⟨x, rfl⟩; exact hkey.out x) (hK _ ?_)
        clear hK K
        simp only [Act.put, List.setIfInBounds_toArray, List.set_cons_succ, List.set_cons_zero]
        refine BigFrame.wpQuiet_want rfl fun K hK => ?_
        refine quiet_load_row 37 (.tmp 3) rfl w.heap.size rfl KA (by rintro wz ⟨x, rfl⟩; exact hkey.out x) (hK _ ?_)
        clear hK K
        simp only [Act.put, List.setIfInBounds_toArray, List.set_cons_succ, List.set_cons_zero]
        iterate 5 (go_big_quiet_step (with_reducible exact ext_call (q2.out _)))
        refine BigFrame.wpQuiet_want rfl fun K hK => ?_
        refine quiet_load_row 37 (.tmp 3) rfl w.heap.size rfl KA (by rintro wz ⟨x, rfl⟩; exact hkey.out x) (hK _ ?_)
        clear hK K
        simp only [Act.put, List.setIfInBounds_toArray, List.set_cons_succ, List.set_cons_zero]
        repeat (go_big_quiet_step (first | (with_reducible exact ext_call (q3.out _)) | (with_reducible exact ext_call (q4.out _))))
        refine wpQuiet_nil ?_
        rintro w' ⟨y, rfl⟩
        have HEND := Lib.hid (HL.out.trans (y.below.mono HL.out.size))
        go_wp2_with fail
        go_ret
        exact ⟨rfl, HEND.out⟩
end Go.Proofs.YtaigngdlioplaaaDoor
