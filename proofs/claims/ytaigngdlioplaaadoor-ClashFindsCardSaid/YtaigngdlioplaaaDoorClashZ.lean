/- The reference's clash. -/
import Derived.Test.YtaigngdlioplaaaDoorClashX
import Derived.Test.YtaigngdlioplaaaDoorNumsI
namespace Go.Proofs.YtaigngdlioplaaaDoor
section
open Go Go.RowKit
set_option linter.unusedVariables false

set_option maxRecDepth 100000 in
set_option maxHeartbeats 1000000 in
theorem rHashed_any (m : Nat) (hm : Hid (1 ≤ m ∧ m ≤ 32)) (l : List ByteArray) (v : Value) (w : World) (hv : Hid (StrsAt w v l)) (hF : Hid (Fine l)) (h4 : l.length ≤ 4096) :
    Calls Tryd.prog 86 #[.agg key72, v, .int .i64 m] w fun e w' => e = .returned (.string (hashedS (nth kList) hSt m l)) ∧ Below w.heap.size w w' := by
  have hks := Lib.hid key72_size
  by_cases h0 : l.length = 0
  · rw [hashedS_nil _ _ _ l h0]
    obtain ⟨A, c, rfl, hc, hi⟩ := hv.out
    rw [h0]
    clear hi hv hF
    generalize key72 = KA at *
    have HL : Hid (∀ o, Below w.heap.size w (w.alloc o)) := fun o => below_alloc (Below.refl _ _) (Nat.le_refl _) _
    go_enter Tryd.func86, Tryd.ntmps86
    go_wp2_with fail
    go_ret
    exact ⟨rfl, HL.out _⟩
  by_cases h1 : l.length = 1
  · rw [hashedS_one _ _ _ l h1]
    obtain ⟨A, c, rfl, hc, hi⟩ := hv.out
    have e0 : l[0]? = some (l[0]'(by omega)) := List.getElem?_eq_getElem _
    obtain ⟨b, o, rfl, hb, hcell⟩ := hi 0 _ e0
    have hz := hF.out 0 _ e0
    rw [Nat.add_zero] at hcell
    generalize l[0]'(by omega) = s at *
    rw [h1]
    clear hi hv hF e0 h0
    generalize key72 = KA at *
    obtain ⟨w1, hw1⟩ : ∃ w1, w.alloc (.cells KA 37) = w1 := ⟨_, rfl⟩
    have HW1 := Lib.hid hw1
    have HL : Hid (Below w.heap.size w w1) := by rw [← hw1]; exact below_alloc (Below.refl _ _) (Nat.le_refl _) _
    have hc1 : w1.cell? ⟨b, o, none⟩ = some (.string s) := (HL.out.cell (p := ⟨b, o, none⟩) hb).trans hcell
    rw [← hw1] at hc1
    clear hw1 hcell
    go_enter Tryd.func86, Tryd.ntmps86
    go_wp2_with fail
    go_ret
    exact ⟨rfl, by rw [HW1.out]; exact HL.out⟩
  have h2 : 2 ≤ l.length := by omega
  have hs := splitN_lt l.length h2
  rw [hashedS_two _ _ _ l h2]
  have q1 := Lib.hid (fun w => rSplit_any (l.length : Nat) w (by show _ ∧ _; omega))
  rw [show splitI (l.length : Nat) = (splitN l.length : Nat) by unfold splitI; rw [if_neg (by omega), Int.toNat_natCast]] at q1
  have t0 : ((l.length : Int) == 0) = false := by rw [beq_eq_false_iff_ne]; omega
  have t1 : ((l.length : Int) == 1) = false := by rw [beq_eq_false_iff_ne]; omega
  generalize hK : splitN l.length = d at *
  have l1 : (l.take d).length = d := by rw [List.length_take]; omega
  have l2 : (l.drop d).length = l.length - d := by rw [List.length_drop]
  obtain ⟨A, c, rfl, hc, hi⟩ := hv.out
  obtain ⟨s0, hs0⟩ : ∃ s0, l[0]? = some s0 := ⟨l[0], List.getElem?_eq_getElem (by omega)⟩
  obtain ⟨b, o, rfl, _, _⟩ := hi 0 s0 hs0
  have z1 := rootS_le (nth kList) hSt m (l.take d)
  have z2 := rootS_le (nth kList) hSt m (l.drop d)
  obtain ⟨w1, hw1⟩ : ∃ w1, w.alloc (.cells key72 37) = w1 := ⟨_, rfl⟩
  have HW1 := Lib.hid hw1
  have HA : Hid (w1.heap[w.heap.size]? = some (.cells key72 37 (0, 0))) := by rw [← hw1]; exact blk_new _ _ _ rfl
  have HL : Hid (Below w.heap.size w w1) := by rw [← hw1]; exact below_alloc (Below.refl _ _) (Nat.le_refl _) _
  have hlt : w.heap.size < w1.heap.size := (Array.getElem?_eq_some_iff.1 HA.out).1
  have hv1 := hv.out.call HL.out
  obtain ⟨hd1, hd2⟩ := hs
  have q2 := Lib.hid (fun (x : ExtOf w1) => rRoot_any m hm d (l.take d) (.slice (some ⟨b, o, none⟩) d c) x.w l1 (Lib.hid ((hv1.head d (by omega)).call x.below)) (Lib.hid (hF.out.take d)) (by omega))
  have q3 := Lib.hid (fun (x : ExtOf w1) => rRoot_any m hm (l.length - d) (l.drop d) (.slice (some ⟨b, o + d, none⟩) (l.length - d) (c - d)) x.w l2 (Lib.hid ((hv1.drop d (by omega)).call x.below)) (Lib.hid (hF.out.drop d)) (by omega))
  clear hi hv hF hK l1 l2 h2 hs0 hv1 hw1 h0 h1
  generalize rootS (nth kList) hSt m (l.take d) = S1 at *
  generalize rootS (nth kList) hSt m (l.drop d) = S2 at *
  generalize key72 = KA at *
  generalize l.length = n at *
  go_enter Tryd.func86, Tryd.ntmps86
  go_wp2_with fail
  refine (q1.out _).mono ?_
  rintro e w2 ⟨rfl, rfl⟩
  go_wp2_with fail
  rw [HW1.out]
  have hkey : Hid (∀ x : ExtOf w1, (loadVar 37 ⟨w.heap.size, 0, none⟩).run Tryd.prog x.w = .ok (.agg KA) x.w) := fun x =>
    run_loadVar_row x.w w.heap.size 37 37 KA (0, 0) _ ((x.below.block _ hlt).trans HA.out) Tryd.underlying37 rfl (by rw [hks.out]; kernel_rfl)
  refine wp_region_ext (by kernel_rfl) (by kernel_rfl) ?_
  repeat (first
    | (refine BigFrame.wpQuiet_want rfl fun K hK => ?_
       refine quiet_load_row 37 (.tmp 3) rfl w.heap.size rfl KA (by rintro wz ⟨x, rfl⟩; exact hkey.out x) (hK _ ?_)
       clear hK K
       simp only [Act.put, List.setIfInBounds_toArray, List.set_cons_succ, List.set_cons_zero])
    | (go_big_quiet_step (first | (with_reducible exact ext_call (q2.out _)) | (with_reducible exact ext_call (q3.out _)))))
  refine wpQuiet_nil ?_
  rintro w' ⟨y, rfl⟩
  have HEND := Lib.hid (HL.out.trans (y.below.mono HL.out.size))
  go_wp2_with fail
  go_ret
  exact ⟨rfl, HEND.out⟩

theorem rRow_s (s : ByteArray) (w : World) (hs : s.size ≤ 1000000) : Calls Tryd.prog 71 #[.string s] w fun e w' => e = .returned (.string (rowStr s)) ∧ Below w.heap.size w w' := refRow_any s w (by show _ ≤ _; omega)

set_option maxRecDepth 100000 in
set_option maxHeartbeats 1000000 in
theorem rLast_of (m : Nat) (q : List ByteArray) (s : ByteArray) (hs : s.size ≤ 400) (qH : Hid (∀ (v : Value) (w : World), Hid (StrsAt w v q) → Calls Tryd.prog 45 #[.agg key72, v, .int .i64 m] w fun e w' => e = .returned (.string (chainS (nth kList) hSt m q)) ∧ Below w.heap.size w w'))
    (v : Value) (w : World) (hv : Hid (StrsAt w v (q ++ [s]))) (h4 : q.length + 1 ≤ 4096) :
    Calls Tryd.prog 91 #[.agg key72, v, .int .i64 m] w fun e w' => e = .returned (.string (linkS (chainS (nth kList) hSt m q) s)) ∧ Below w.heap.size w w' := by
  have hks := Lib.hid key72_size
  have zc := chainS_le (nth kList) hSt m q
  obtain ⟨A, c, rfl, hc, hi⟩ := hv.out
  have hlen : (q ++ [s]).length = q.length + 1 := by simp
  obtain ⟨b, o, rfl, hb, hcell⟩ := hi q.length s (by simp)
  obtain ⟨w1, hw1⟩ : ∃ w1, w.alloc (.cells key72 37) = w1 := ⟨_, rfl⟩
  have HW1 := Lib.hid hw1
  have HA : Hid (w1.heap[w.heap.size]? = some (.cells key72 37 (0, 0))) := by rw [← hw1]; exact blk_new _ _ _ rfl
  have HL : Hid (Below w.heap.size w w1) := by rw [← hw1]; exact below_alloc (Below.refl _ _) (Nat.le_refl _) _
  have hlt : w.heap.size < w1.heap.size := (Array.getElem?_eq_some_iff.1 HA.out).1
  have hc1 : w1.cell? ⟨b, o + q.length, none⟩ = some (.string s) := (HL.out.cell (p := ⟨b, o + q.length, none⟩) hb).trans hcell
  have hb1 : b < w1.heap.size := by omega
  have hq : Hid (StrsAt w1 (.slice (some ⟨b, o, none⟩) q.length c) q) := by
    have := (hv.out.call HL.out).head q.length (by omega)
    rwa [List.take_left] at this
  have q1 := Lib.hid (fun (x : ExtOf w1) => qH.out (.slice (some ⟨b, o, none⟩) q.length c) x.w (Lib.hid (hq.out.call x.below)))
  have hL : Hid (rowStr (chainS (nth kList) hSt m q) ++ rowStr s = linkS (chainS (nth kList) hSt m q) s) := rfl
  generalize chainS (nth kList) hSt m q = C at *
  have q2 := Lib.hid (fun w => rRow_s C w (by omega))
  have q3 := Lib.hid (fun w => rRow_s s w (by omega))
  have zr1 := rowStr_size C
  have zr2 := rowStr_size s
  have zr3 : (rowStr C).size ≤ 1000 := by omega
  have zr4 : (rowStr s).size ≤ 1000 := by omega
  rw [hlen] at hc ⊢
  clear zr1 zr2
  generalize linkS C s = L at *
  generalize rowStr C = r1 at *
  generalize rowStr s = r2 at *
  clear hi hv hlen hcell hw1 qH hq zc
  generalize key72 = KA at *
  generalize q.length = n at *
  go_enter Tryd.func91, Tryd.ntmps91
  go_wp2_with fail
  rw [HW1.out]
  have hkey : Hid (∀ x : ExtOf w1, (loadVar 37 ⟨w.heap.size, 0, none⟩).run Tryd.prog x.w = .ok (.agg KA) x.w) := fun x =>
    run_loadVar_row x.w w.heap.size 37 37 KA (0, 0) _ ((x.below.block _ hlt).trans HA.out) Tryd.underlying37 rfl (by rw [hks.out]; kernel_rfl)
  refine wp_region_ext (by kernel_rfl) (by kernel_rfl) ?_
  repeat (first
    | (refine BigFrame.wpQuiet_want rfl fun K hK => ?_
       refine quiet_load_row 37 (.tmp 3) rfl w.heap.size rfl KA (by rintro wz ⟨x, rfl⟩; exact hkey.out x) (hK _ ?_)
       clear hK K
       simp only [Act.put, List.setIfInBounds_toArray, List.set_cons_succ, List.set_cons_zero])
    | (go_big_quiet_step (first | (with_reducible exact ext_call (q1.out _)) | (with_reducible exact ext_call (q2.out _)) | (with_reducible exact ext_call (q3.out _)))))
  refine wpQuiet_nil ?_
  rintro w' ⟨y, rfl⟩
  have HEND := Lib.hid (HL.out.trans (y.below.mono HL.out.size))
  go_wp2_with fail
  go_ret
  exact ⟨by rw [← hL.out]; rfl, HEND.out⟩

set_option maxRecDepth 100000 in
set_option maxHeartbeats 1000000 in
theorem rHash_any (m : Nat) (hm : Hid (1 ≤ m ∧ m ≤ 32)) : ∀ (k : Nat) (l : List ByteArray), l.length = k → Hid (Fine l) → k ≤ 4096 → ∀ (v : Value) (w : World), Hid (StrsAt w v l) →
    Calls Tryd.prog 45 #[.agg key72, v, .int .i64 m] w fun e w' => e = .returned (.string (chainS (nth kList) hSt m l)) ∧ Below w.heap.size w w' := by
  intro k
  induction k with
  | zero =>
    intro l hk hF h4 v w hv
    have hks := Lib.hid key72_size
    obtain rfl := List.length_eq_zero_iff.1 hk
    rw [chainS_nil]
    have q := Lib.hid (fun w => rCut_any ⟨#[]⟩ m w (by show _ ≤ _; decide) hm)
    obtain ⟨A, c, rfl, hc, hi⟩ := hv.out
    rw [List.length_nil]
    clear hi hv hF
    generalize cutS (nth kList) hSt ⟨#[]⟩ m = S at *
    generalize key72 = KA at *
    obtain ⟨w1, hw1⟩ : ∃ w1, w.alloc (.cells KA 37) = w1 := ⟨_, rfl⟩
    have HW1 := Lib.hid hw1
    have HA : Hid (w1.heap[w.heap.size]? = some (.cells KA 37 (0, 0))) := by rw [← hw1]; exact blk_new _ _ _ rfl
    have HL : Hid (Below w.heap.size w w1) := by rw [← hw1]; exact below_alloc (Below.refl _ _) (Nat.le_refl _) _
    clear hw1
    go_enter Tryd.func45, Tryd.ntmps45
    go_wp2_with (rw [HW1.out]; refine wpList_load_row rfl 37 (.tmp 3) rfl w.heap.size rfl 37 KA (0, 0) _ HA.out Tryd.underlying37 rfl (by rw [hks.out]; kernel_rfl) ?_)
    refine (q.out _).mono ?_
    rintro e w2 ⟨rfl, hb⟩
    have HB2 := Lib.hid (HL.out.trans (hb.mono HL.out.size))
    clear hb
    go_wp2_with fail
    go_ret
    exact ⟨rfl, HB2.out⟩
  | succ k ih =>
    intro l hk hF h4 v w hv
    have hks := Lib.hid key72_size
    rcases snoc_cases l with rfl | ⟨q, s, rfl⟩
    · simp at hk
    have hql : q.length = k := by simpa using hk
    have hFq : Hid (Fine q) := by have := hF.out.take q.length; rwa [List.take_left] at this
    have hs : s.size ≤ 400 := hF.out q.length s (by simp)
    have qL := Lib.hid (fun v w hv => rLast_of m q s hs (Lib.hid fun v w hv => ih q hql hFq (by omega) v w hv) v w hv (by omega))
    rw [chainS_snoc]
    have zl := linkS_le (chainS (nth kList) hSt m q) s
    have zc := chainS_le (nth kList) hSt m q
    obtain ⟨w1, hw1⟩ : ∃ w1, w.alloc (.cells key72 37) = w1 := ⟨_, rfl⟩
    have HW1 := Lib.hid hw1
    have HA : Hid (w1.heap[w.heap.size]? = some (.cells key72 37 (0, 0))) := by rw [← hw1]; exact blk_new _ _ _ rfl
    have HL : Hid (Below w.heap.size w w1) := by rw [← hw1]; exact below_alloc (Below.refl _ _) (Nat.le_refl _) _
    have hlt : w.heap.size < w1.heap.size := (Array.getElem?_eq_some_iff.1 HA.out).1
    have q1 := Lib.hid (fun (x : ExtOf w1) => qL.out v x.w (Lib.hid ((hv.out.call HL.out).call x.below)))
    have q2 := Lib.hid (fun w => rCut_any (linkS (chainS (nth kList) hSt m q) s) m w (by show _ ≤ _; omega) hm)
    obtain ⟨A, c, rfl, hc, hi⟩ := hv.out
    rw [hk] at q1 ⊢
    generalize cutS (nth kList) hSt (linkS (chainS (nth kList) hSt m q) s) m = S at *
    generalize linkS (chainS (nth kList) hSt m q) s = L at *
    clear ih hi hv hF hFq qL zl zc hw1 hk hql hs
    generalize key72 = KA at *
    have t0 : (((k + 1 : Nat) : Int) == 0) = false := by rw [beq_eq_false_iff_ne]; omega
    have t1 : ((k : Int) + 1 == 0) = false := by rw [beq_eq_false_iff_ne]; omega
    go_enter Tryd.func45, Tryd.ntmps45
    go_wp2_with fail
    rw [HW1.out]
    have hkey : Hid (∀ x : ExtOf w1, (loadVar 37 ⟨w.heap.size, 0, none⟩).run Tryd.prog x.w = .ok (.agg KA) x.w) := fun x =>
      run_loadVar_row x.w w.heap.size 37 37 KA (0, 0) _ ((x.below.block _ hlt).trans HA.out) Tryd.underlying37 rfl (by rw [hks.out]; kernel_rfl)
    refine wp_region_ext (by kernel_rfl) (by kernel_rfl) ?_
    repeat (first
      | (refine BigFrame.wpQuiet_want rfl fun K hK => ?_
         refine quiet_load_row 37 (.tmp 3) rfl w.heap.size rfl KA (by rintro wz ⟨x, rfl⟩; exact hkey.out x) (hK _ ?_)
         clear hK K
         simp only [Act.put, List.setIfInBounds_toArray, List.set_cons_succ, List.set_cons_zero])
      | (go_big_quiet_step (first | (with_reducible exact ext_call (q1.out _)) | (with_reducible exact ext_call (q2.out _)))))
    refine wpQuiet_nil ?_
    rintro w' ⟨y, rfl⟩
    have HEND := Lib.hid (HL.out.trans (y.below.mono HL.out.size))
    go_wp2_with fail
    go_ret
    exact ⟨rfl, HEND.out⟩
end

section
open Go Go.RowKit
set_option linter.unusedVariables false

set_option maxRecDepth 100000 in
set_option maxHeartbeats 2000000 in
theorem rFind_any (m : Nat) (hm : Hid (1 ≤ m ∧ m ≤ 32)) : ∀ (k : Nat) (a b : List ByteArray) (va vb : Value) (w : World), a.length = k → a.length = b.length → ¬ a = b → Hid (StrsAt w va a) → Hid (StrsAt w vb b) → Hid (Fine a) → Hid (Fine b) → k ≤ 4096 →
    Calls Tryd.prog 43 #[.agg key72, va, vb, .int .i64 m] w fun e w' => e = .returned (.tuple #[.string (downS (nth kList) hSt m a b).1, .string (downS (nth kList) hSt m a b).2]) ∧ Below w.heap.size w w' := by
  intro k
  induction k using Nat.strongRecOn with
  | _ k ih =>
    intro a b va vb w hk hl hne ha hb hFa hFb h4
    have hks := Lib.hid key72_size
    obtain ⟨w1, hw1⟩ : ∃ w1, w.alloc (.cells key72 37) = w1 := ⟨_, rfl⟩
    have HW1 := Lib.hid hw1
    have HA : Hid (w1.heap[w.heap.size]? = some (.cells key72 37 (0, 0))) := by rw [← hw1]; exact blk_new _ _ _ rfl
    have HL : Hid (Below w.heap.size w w1) := by rw [← hw1]; exact below_alloc (Below.refl _ _) (Nat.le_refl _) _
    have hlt : w.heap.size < w1.heap.size := (Array.getElem?_eq_some_iff.1 HA.out).1
    have q1 := Lib.hid (fun (x : ExtOf w1) => rHashed_any m hm a va x.w (Lib.hid ((ha.out.call HL.out).call x.below)) hFa (by omega))
    have q2 := Lib.hid (fun (x : ExtOf w1) => rHashed_any m hm b vb x.w (Lib.hid ((hb.out.call HL.out).call x.below)) hFb (by omega))
    by_cases he : hashedS (nth kList) hSt m a = hashedS (nth kList) hSt m b
    · have h2 := hashed_two _ _ m hl hne he
      have hs := splitN_lt a.length h2
      have q3 := Lib.hid (fun w => rSplit_any (a.length : Nat) w (by show _ ∧ _; omega))
      rw [show splitI (a.length : Nat) = (splitN a.length : Nat) by unfold splitI; rw [if_neg (by omega), Int.toNat_natCast]] at q3
      have dl := downS_left _ _ m he h2
      have dr := downS_right _ _ m he h2
      rw [← he] at q2
      have hbn : ((hashedS (nth kList) hSt m a).toList != (hashedS (nth kList) hSt m a).toList) = false := by simp
      generalize hashedS (nth kList) hSt m a = X at *
      generalize splitN a.length = d at *
      obtain ⟨hd1, hd2⟩ := hs
      obtain ⟨A, c, rfl, hc, hi⟩ := ha.out
      obtain ⟨A2, c2, rfl, hc2, hi2⟩ := hb.out
      obtain ⟨s0, hs0⟩ : ∃ s0, a[0]? = some s0 := ⟨a[0], List.getElem?_eq_getElem (by omega)⟩
      obtain ⟨b1, o1, rfl, _, _⟩ := hi 0 s0 hs0
      obtain ⟨s1, hs1⟩ : ∃ s1, b[0]? = some s1 := ⟨b[0]'(by omega), List.getElem?_eq_getElem (by omega)⟩
      obtain ⟨b2, o2, rfl, _, _⟩ := hi2 0 s1 hs1
      have l1 : (a.take d).length = d := by rw [List.length_take]; omega
      have l2 : (b.take d).length = d := by rw [List.length_take]; omega
      have l3 : (a.drop d).length = k - d := by rw [List.length_drop]; omega
      have l4 : (b.drop d).length = k - d := by rw [List.length_drop]; omega
      have q4 := Lib.hid (fun (w : World) (h1 : Hid (StrsAt w (.slice (some ⟨b1, o1, none⟩) d c) (a.take d))) (h2 : Hid (StrsAt w (.slice (some ⟨b2, o2, none⟩) d c2) (b.take d))) => Same_any _ _ (a.take d) (b.take d) w h1 h2 (by omega))
      have HA1 : Hid (StrsAt w1 (.slice (some ⟨b1, o1, none⟩) d c) (a.take d)) := (ha.out.call HL.out).head d (by omega)
      have HA2 : Hid (StrsAt w1 (.slice (some ⟨b2, o2, none⟩) d c2) (b.take d)) := (hb.out.call HL.out).head d (by omega)
      have HA3 : Hid (StrsAt w1 (.slice (some ⟨b1, o1 + d, none⟩) (k - d) (c - d)) (a.drop d)) := by have := (ha.out.call HL.out).drop d (by omega); rwa [hk] at this
      have HA4 : Hid (StrsAt w1 (.slice (some ⟨b2, o2 + d, none⟩) (k - d) (c2 - d)) (b.drop d)) := by have := (hb.out.call HL.out).drop d (by omega); rwa [← hl, hk] at this
      have q5 := Lib.hid (fun (ht : ¬ a.take d = b.take d) w h1 h2 => ih d (by omega) (a.take d) (b.take d) (.slice (some ⟨b1, o1, none⟩) d c) (.slice (some ⟨b2, o2, none⟩) d c2) w l1 (by omega) ht h1 h2 (Lib.hid (hFa.out.take d)) (Lib.hid (hFb.out.take d)) (by omega))
      have q6 := Lib.hid (fun (ht : a.take d = b.take d) w h1 h2 => ih (k - d) (by omega) (a.drop d) (b.drop d) (.slice (some ⟨b1, o1 + d, none⟩) (k - d) (c - d)) (.slice (some ⟨b2, o2 + d, none⟩) (k - d) (c2 - d)) w l3 (by omega) (drop_ne hne ht) h1 h2 (Lib.hid (hFa.out.drop d)) (Lib.hid (hFb.out.drop d)) (by omega))
      rw [← hl] at hc2 q2 ⊢
      rw [hk] at hc hc2 q1 q2 q3 ⊢
      have hd3 : d < k := by omega
      obtain ⟨R, hR⟩ : ∃ R, downS (nth kList) hSt m a b = R := ⟨_, rfl⟩
      rw [hR] at dl dr ⊢
      have DL := Lib.hid dl
      have DR := Lib.hid dr
      obtain ⟨R1, R2⟩ := R
      simp only []
      have HT : Hid ((a.take d = b.take d) ∨ ¬ (a.take d = b.take d)) := Classical.em _
      clear ih hi hi2 hs0 hs1 l1 l2 l3 l4 ha hb hFa hFb hd2 he h2 dl dr hR hw1
      rcases HT.out with ht | ht
      · rw [decide_eq_true ht] at q4
        have QR := Lib.hid (q6.out ht)
        rw [← DR.out ht] at QR
        simp only [] at QR
        clear DL DR q5 q6 ht HT
        generalize key72 = KA at *
        have hkey : Hid (∀ w2, Below w1.heap.size w1 w2 → ∀ x : ExtOf w2, (loadVar 37 ⟨w.heap.size, 0, none⟩).run Tryd.prog x.w = .ok (.agg KA) x.w) := fun w2 hb2 x =>
          run_loadVar_row x.w w.heap.size 37 37 KA (0, 0) _ ((x.below.block _ (by have := hb2.size; omega)).trans ((hb2.block _ hlt).trans HA.out)) Tryd.underlying37 rfl (by rw [hks.out]; kernel_rfl)
        go_enter Tryd.func43, Tryd.ntmps43
        go_wp2_with fail
        rw [HW1.out]
        refine wp_region_ext (by kernel_rfl) (by kernel_rfl) ?_
        repeat (first
          | (refine BigFrame.wpQuiet_want rfl fun K hK => ?_
             refine quiet_load_row 37 (.tmp 4) rfl w.heap.size rfl KA (by rintro wz ⟨x, rfl⟩; exact hkey.out w1 (Below.refl _ _) x) (hK _ ?_)
             clear hK K
             simp only [Act.put, List.setIfInBounds_toArray, List.set_cons_succ, List.set_cons_zero])
          | (go_big_quiet_step (first | (with_reducible exact ext_call (q1.out _)) | (with_reducible exact ext_call (q2.out _)))))
        refine wpQuiet_nil ?_
        rintro w' ⟨y, rfl⟩
        have HB2 := Lib.hid y.below
        generalize y.w = w2 at *
        clear y q1 q2
        go_wp2_with fail
        refine (q3.out _).mono ?_
        rintro e w3 ⟨rfl, rfl⟩
        go_wp2_with fail
        have qE4 := Lib.hid (fun (x : ExtOf w2) => q4.out x.w (Lib.hid ((HA1.out.call HB2.out).call x.below)) (Lib.hid ((HA2.out.call HB2.out).call x.below)))
        refine wp_region_ext (by kernel_rfl) (by kernel_rfl) ?_
        repeat (go_big_quiet_step (with_reducible exact ext_call (qE4.out _)))
        refine wpQuiet_nil ?_
        rintro w' ⟨y, rfl⟩
        have HB4 := Lib.hid (HB2.out.trans (y.below.mono HB2.out.size))
        generalize y.w = w4 at *
        clear y qE4 q4
        have qE6 := Lib.hid (fun (x : ExtOf w4) => QR.out x.w (Lib.hid ((HA3.out.call HB4.out).call x.below)) (Lib.hid ((HA4.out.call HB4.out).call x.below)))
        go_wp2_with fail
        refine wp_region_ext (by kernel_rfl) (by kernel_rfl) ?_
        repeat (first
          | (refine BigFrame.wpQuiet_want rfl fun K hK => ?_
             refine quiet_load_row 37 (.tmp 4) rfl w.heap.size rfl KA (by rintro wz ⟨x, rfl⟩; exact hkey.out w4 HB4.out x) (hK _ ?_)
             clear hK K
             simp only [Act.put, List.setIfInBounds_toArray, List.set_cons_succ, List.set_cons_zero])
          | (go_big_quiet_step (with_reducible exact ext_call (qE6.out _))))
        refine wpQuiet_nil ?_
        rintro w' ⟨y, rfl⟩
        have HB5 := Lib.hid (HL.out.trans ((HB4.out.trans (y.below.mono HB4.out.size)).mono HL.out.size))
        go_wp2_with fail
        go_ret2
        exact ⟨rfl, HB5.out⟩
      · rw [decide_eq_false ht] at q4
        have QR := Lib.hid (q5.out ht)
        rw [← DL.out ht] at QR
        simp only [] at QR
        clear DL DR q5 q6 ht HT
        generalize key72 = KA at *
        have hkey : Hid (∀ w2, Below w1.heap.size w1 w2 → ∀ x : ExtOf w2, (loadVar 37 ⟨w.heap.size, 0, none⟩).run Tryd.prog x.w = .ok (.agg KA) x.w) := fun w2 hb2 x =>
          run_loadVar_row x.w w.heap.size 37 37 KA (0, 0) _ ((x.below.block _ (by have := hb2.size; omega)).trans ((hb2.block _ hlt).trans HA.out)) Tryd.underlying37 rfl (by rw [hks.out]; kernel_rfl)
        go_enter Tryd.func43, Tryd.ntmps43
        go_wp2_with fail
        rw [HW1.out]
        refine wp_region_ext (by kernel_rfl) (by kernel_rfl) ?_
        repeat (first
          | (refine BigFrame.wpQuiet_want rfl fun K hK => ?_
             refine quiet_load_row 37 (.tmp 4) rfl w.heap.size rfl KA (by rintro wz ⟨x, rfl⟩; exact hkey.out w1 (Below.refl _ _) x) (hK _ ?_)
             clear hK K
             simp only [Act.put, List.setIfInBounds_toArray, List.set_cons_succ, List.set_cons_zero])
          | (go_big_quiet_step (first | (with_reducible exact ext_call (q1.out _)) | (with_reducible exact ext_call (q2.out _)))))
        refine wpQuiet_nil ?_
        rintro w' ⟨y, rfl⟩
        have HB2 := Lib.hid y.below
        generalize y.w = w2 at *
        clear y q1 q2
        go_wp2_with fail
        refine (q3.out _).mono ?_
        rintro e w3 ⟨rfl, rfl⟩
        go_wp2_with fail
        have qE4 := Lib.hid (fun (x : ExtOf w2) => q4.out x.w (Lib.hid ((HA1.out.call HB2.out).call x.below)) (Lib.hid ((HA2.out.call HB2.out).call x.below)))
        refine wp_region_ext (by kernel_rfl) (by kernel_rfl) ?_
        repeat (go_big_quiet_step (with_reducible exact ext_call (qE4.out _)))
        refine wpQuiet_nil ?_
        rintro w' ⟨y, rfl⟩
        have HB4 := Lib.hid (HB2.out.trans (y.below.mono HB2.out.size))
        generalize y.w = w4 at *
        clear y qE4 q4
        have qE6 := Lib.hid (fun (x : ExtOf w4) => QR.out x.w (Lib.hid ((HA1.out.call HB4.out).call x.below)) (Lib.hid ((HA2.out.call HB4.out).call x.below)))
        go_wp2_with fail
        refine wp_region_ext (by kernel_rfl) (by kernel_rfl) ?_
        repeat (first
          | (refine BigFrame.wpQuiet_want rfl fun K hK => ?_
             refine quiet_load_row 37 (.tmp 4) rfl w.heap.size rfl KA (by rintro wz ⟨x, rfl⟩; exact hkey.out w4 HB4.out x) (hK _ ?_)
             clear hK K
             simp only [Act.put, List.setIfInBounds_toArray, List.set_cons_succ, List.set_cons_zero])
          | (go_big_quiet_step (with_reducible exact ext_call (qE6.out _))))
        refine wpQuiet_nil ?_
        rintro w' ⟨y, rfl⟩
        have HB5 := Lib.hid (HL.out.trans ((HB4.out.trans (y.below.mono HB4.out.size)).mono HL.out.size))
        go_wp2_with fail
        go_ret2
        exact ⟨rfl, HB5.out⟩
    · rw [downS_stop _ _ m he]
      simp only []
      have hbn : ((hashedS (nth kList) hSt m a).toList == (hashedS (nth kList) hSt m b).toList) = false := strs_ne he
      generalize hashedS (nth kList) hSt m a = X at *
      generalize hashedS (nth kList) hSt m b = Y at *
      clear ih he hw1
      generalize key72 = KA at *
      have hkey : Hid (∀ x : ExtOf w1, (loadVar 37 ⟨w.heap.size, 0, none⟩).run Tryd.prog x.w = .ok (.agg KA) x.w) := fun x =>
        run_loadVar_row x.w w.heap.size 37 37 KA (0, 0) _ ((x.below.block _ hlt).trans HA.out) Tryd.underlying37 rfl (by rw [hks.out]; kernel_rfl)
      go_enter Tryd.func43, Tryd.ntmps43
      go_wp2_with fail
      rw [HW1.out]
      refine wp_region_ext (by kernel_rfl) (by kernel_rfl) ?_
      repeat (first
        | (refine BigFrame.wpQuiet_want rfl fun K hK => ?_
           refine quiet_load_row 37 (.tmp 4) rfl w.heap.size rfl KA (by rintro wz ⟨x, rfl⟩; exact hkey.out x) (hK _ ?_)
           clear hK K
           simp only [Act.put, List.setIfInBounds_toArray, List.set_cons_succ, List.set_cons_zero])
        | (go_big_quiet_step (first | (with_reducible exact ext_call (q1.out _)) | (with_reducible exact ext_call (q2.out _)))))
      refine wpQuiet_nil ?_
      rintro w' ⟨y, rfl⟩
      have HB2 := Lib.hid (HL.out.trans (y.below.mono HL.out.size))
      go_wp2_with fail
      go_ret2
      exact ⟨rfl, HB2.out⟩

theorem rLast_any (m : Nat) (hm : Hid (1 ≤ m ∧ m ≤ 32)) (l : List ByteArray) (k : Nat) (hk : l.length = k + 1) (hF : Hid (Fine l)) (h4 : k + 1 ≤ 4096) (v : Value) (w : World) (hv : Hid (StrsAt w v l)) :
    Calls Tryd.prog 91 #[.agg key72, v, .int .i64 m] w fun e w' => e = .returned (.string (linkAt (nth kList) hSt m l k)) ∧ Below w.heap.size w w' := by
  rcases snoc_cases l with rfl | ⟨q, s, rfl⟩
  · simp at hk
  have hql : q.length = k := by simpa using hk
  have hFq : Hid (Fine q) := by have := hF.out.take q.length; rwa [List.take_left] at this
  have hs : s.size ≤ 400 := hF.out q.length s (by simp)
  have h := rLast_of m q s hs (Lib.hid fun v w hv => rHash_any m hm q.length q rfl hFq (by omega) v w hv) v w hv (by omega)
  rw [linkAt_get _ _ m (show (q ++ [s])[k]? = some s by rw [← hql]; simp), ← hql, List.take_left]
  exact h

set_option maxRecDepth 100000 in
set_option maxHeartbeats 2000000 in
theorem rChain_any4 (m : Nat) (hm : Hid (1 ≤ m ∧ m ≤ 32)) : ∀ (k : Nat) (a b : List ByteArray) (va vb : Value) (w : World), a.length = k → a.length = b.length → ¬ a = b → Hid (StrsAt w va a) → Hid (StrsAt w vb b) → Hid (Fine a) → Hid (Fine b) → k ≤ 4096 →
    Calls Tryd.prog 46 #[.agg key72, va, vb, .int .i64 m] w fun e w' => e = .returned (.tuple #[.string (clashC (nth kList) hSt m a b k).1, .string (clashC (nth kList) hSt m a b k).2]) ∧ Below w.heap.size w w' := by
  intro k
  induction k with
  | zero =>
    intro a b va vb w hk hl hne
    exact absurd (by rw [List.length_eq_zero_iff.1 hk, List.length_eq_zero_iff.1 (show b.length = 0 by omega)]) hne
  | succ k ih =>
    intro a b va vb w hk hl hne ha hb hFa hFb h4
    have hks := Lib.hid key72_size
    obtain ⟨w1, hw1⟩ : ∃ w1, w.alloc (.cells key72 37) = w1 := ⟨_, rfl⟩
    have HW1 := Lib.hid hw1
    have HA : Hid (w1.heap[w.heap.size]? = some (.cells key72 37 (0, 0))) := by rw [← hw1]; exact blk_new _ _ _ rfl
    have HL : Hid (Below w.heap.size w w1) := by rw [← hw1]; exact below_alloc (Below.refl _ _) (Nat.le_refl _) _
    have hlt : w.heap.size < w1.heap.size := (Array.getElem?_eq_some_iff.1 HA.out).1
    have hkb : b.length = k + 1 := by omega
    have q1 := Lib.hid (fun (x : ExtOf w1) => rLast_any m hm a k hk hFa h4 va x.w (Lib.hid ((ha.out.call HL.out).call x.below)))
    have q2 := Lib.hid (fun (x : ExtOf w1) => rLast_any m hm b k hkb hFb h4 vb x.w (Lib.hid ((hb.out.call HL.out).call x.below)))
    have hne2 : ¬ a.take (k + 1) = b.take (k + 1) := by rw [← hk, List.take_length, hl, List.take_length]; exact hne
    have hst := link_step (nth kList) hSt m hFa.out hFb.out (k := k) (by omega) (by omega)
    by_cases he : linkAt (nth kList) hSt m a k = linkAt (nth kList) hSt m b k
    · have h1 := (hst he hne2).1
      rw [clashC_go _ _ m he]
      rw [← he] at q2
      have hct := clashC_take (nth kList) hSt m a b k k (Nat.le_refl _)
      have hbn : ((linkAt (nth kList) hSt m a k).toList != (linkAt (nth kList) hSt m a k).toList) = false := by simp
      generalize linkAt (nth kList) hSt m a k = X at *
      obtain ⟨A, c, rfl, hc, hi⟩ := ha.out
      obtain ⟨A2, c2, rfl, hc2, hi2⟩ := hb.out
      obtain ⟨s0, hs0⟩ : ∃ s0, a[0]? = some s0 := ⟨a[0]'(by omega), List.getElem?_eq_getElem (by omega)⟩
      obtain ⟨b1, o1, rfl, _, _⟩ := hi 0 s0 hs0
      obtain ⟨s1, hs1⟩ : ∃ s1, b[0]? = some s1 := ⟨b[0]'(by omega), List.getElem?_eq_getElem (by omega)⟩
      obtain ⟨b2, o2, rfl, _, _⟩ := hi2 0 s1 hs1
      have HA1 : Hid (StrsAt w1 (.slice (some ⟨b1, o1, none⟩) k c) (a.take k)) := (ha.out.call HL.out).head k (by omega)
      have HA2 : Hid (StrsAt w1 (.slice (some ⟨b2, o2, none⟩) k c2) (b.take k)) := (hb.out.call HL.out).head k (by omega)
      have QR := Lib.hid (fun w h1' h2 => ih (a.take k) (b.take k) (.slice (some ⟨b1, o1, none⟩) k c) (.slice (some ⟨b2, o2, none⟩) k c2) w (by rw [List.length_take]; omega) (by rw [List.length_take, List.length_take]; omega) h1 h1' h2 (Lib.hid (hFa.out.take k)) (Lib.hid (hFb.out.take k)) (by omega))
      rw [hct] at QR
      rw [hkb] at hc2 q2 ⊢
      rw [hk] at hc q1 ⊢
      generalize (clashC (nth kList) hSt m a b k).1 = R1 at *
      generalize (clashC (nth kList) hSt m a b k).2 = R2 at *
      clear ih hi hi2 hs0 hs1 ha hb hFa hFb he hw1 hst hne hne2 hct hl hk hkb h1
      generalize key72 = KA at *
      have hkey : Hid (∀ w2, Below w1.heap.size w1 w2 → ∀ x : ExtOf w2, (loadVar 37 ⟨w.heap.size, 0, none⟩).run Tryd.prog x.w = .ok (.agg KA) x.w) := fun w2 hb2 x =>
        run_loadVar_row x.w w.heap.size 37 37 KA (0, 0) _ ((x.below.block _ (by have := hb2.size; omega)).trans ((hb2.block _ hlt).trans HA.out)) Tryd.underlying37 rfl (by rw [hks.out]; kernel_rfl)
      go_enter Tryd.func46, Tryd.ntmps46
      go_wp2_with fail
      rw [HW1.out]
      refine wp_region_ext (by kernel_rfl) (by kernel_rfl) ?_
      repeat (first
        | (refine BigFrame.wpQuiet_want rfl fun K hK => ?_
           refine quiet_load_row 37 (.tmp 4) rfl w.heap.size rfl KA (by rintro wz ⟨x, rfl⟩; exact hkey.out w1 (Below.refl _ _) x) (hK _ ?_)
           clear hK K
           simp only [Act.put, List.setIfInBounds_toArray, List.set_cons_succ, List.set_cons_zero])
        | (go_big_quiet_step (first | (with_reducible exact ext_call (q1.out _)) | (with_reducible exact ext_call (q2.out _)))))
      refine wpQuiet_nil ?_
      rintro w' ⟨y, rfl⟩
      have HB2 := Lib.hid y.below
      generalize y.w = w2 at *
      clear y q1 q2
      have qE6 := Lib.hid (fun (x : ExtOf w2) => QR.out x.w (Lib.hid ((HA1.out.call HB2.out).call x.below)) (Lib.hid ((HA2.out.call HB2.out).call x.below)))
      have e1 : IntKind.i64.wrap (((k + 1 : Nat) : Int) - 1) = (k : Int) := by rw [show ((k + 1 : Nat) : Int) - 1 = (k : Int) by omega]; exact IntWalk.i64_in _ (by omega)
      have e2 : 0 ≤ (k : Int) := by omega
      go_wp2_with fail
      refine wp_region_ext (by kernel_rfl) (by kernel_rfl) ?_
      repeat (first
        | (refine BigFrame.wpQuiet_want rfl fun K hK => ?_
           refine quiet_load_row 37 (.tmp 4) rfl w.heap.size rfl KA (by rintro wz ⟨x, rfl⟩; exact hkey.out w2 HB2.out x) (hK _ ?_)
           clear hK K
           simp only [Act.put, List.setIfInBounds_toArray, List.set_cons_succ, List.set_cons_zero])
        | (go_big_quiet_step (with_reducible exact ext_call (qE6.out _))))
      refine wpQuiet_nil ?_
      rintro w' ⟨y, rfl⟩
      have HB5 := Lib.hid (HL.out.trans ((HB2.out.trans (y.below.mono HB2.out.size)).mono HL.out.size))
      go_wp2_with fail
      go_ret2
      exact ⟨rfl, HB5.out⟩
    · rw [clashC_stop _ _ m he]
      simp only []
      have hbn : ((linkAt (nth kList) hSt m a k).toList == (linkAt (nth kList) hSt m b k).toList) = false := strs_ne he
      generalize linkAt (nth kList) hSt m a k = X at *
      generalize linkAt (nth kList) hSt m b k = Y at *
      clear ih he hw1 hst
      generalize key72 = KA at *
      have hkey : Hid (∀ x : ExtOf w1, (loadVar 37 ⟨w.heap.size, 0, none⟩).run Tryd.prog x.w = .ok (.agg KA) x.w) := fun x =>
        run_loadVar_row x.w w.heap.size 37 37 KA (0, 0) _ ((x.below.block _ hlt).trans HA.out) Tryd.underlying37 rfl (by rw [hks.out]; kernel_rfl)
      go_enter Tryd.func46, Tryd.ntmps46
      go_wp2_with fail
      rw [HW1.out]
      refine wp_region_ext (by kernel_rfl) (by kernel_rfl) ?_
      repeat (first
        | (refine BigFrame.wpQuiet_want rfl fun K hK => ?_
           refine quiet_load_row 37 (.tmp 4) rfl w.heap.size rfl KA (by rintro wz ⟨x, rfl⟩; exact hkey.out x) (hK _ ?_)
           clear hK K
           simp only [Act.put, List.setIfInBounds_toArray, List.set_cons_succ, List.set_cons_zero])
        | (go_big_quiet_step (first | (with_reducible exact ext_call (q1.out _)) | (with_reducible exact ext_call (q2.out _)))))
      refine wpQuiet_nil ?_
      rintro w' ⟨y, rfl⟩
      have HB2 := Lib.hid (HL.out.trans (y.below.mono HL.out.size))
      go_wp2_with fail
      go_ret2
      exact ⟨rfl, HB2.out⟩
end

end Go.Proofs.YtaigngdlioplaaaDoor
