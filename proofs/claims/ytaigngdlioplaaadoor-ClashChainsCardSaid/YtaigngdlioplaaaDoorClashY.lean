/- clash's found, Find, Chain. -/
import Derived.Test.YtaigngdlioplaaaDoorClashX
namespace Go.Proofs.YtaigngdlioplaaaDoor
section
open Go Go.RowKit
set_option linter.unusedVariables false

theorem pair_cells (w : World) (u v : Value) (t : TypeId) : (w.alloc (.cells #[u, v] t)).cell? ⟨w.heap.size, 0, none⟩ = some u ∧ (w.alloc (.cells #[u, v] t)).cell? ⟨w.heap.size, 1, none⟩ = some v :=
  ⟨cells_of_blk (heap_new w _) 0 _ rfl, cells_of_blk (heap_new w _) 1 _ rfl⟩

set_option maxRecDepth 100000 in
set_option maxHeartbeats 1000000 in
theorem found_bad (n : Int) (A1 A2 : Option Addr) (k1 c1 k2 c2 : Nat) (fh fc p x y z : Nat) (w : World) (hk1 : k1 ≤ 9223372036854775807) (hk2 : k2 ≤ 9223372036854775807) (hb : rightC n k1 k2 ≠ 0) :
    Calls Tryd.prog 83 #[.slice A1 k1 c1, .slice A2 k2 c2, .int .i64 n, .func (.func fh) #[] #[.pointer (some ⟨p, 0, none⟩)], .func (.func fc) #[] #[.pointer (some ⟨x, 0, none⟩), .pointer (some ⟨y, 0, none⟩), .pointer (some ⟨z, 0, none⟩)]] w fun e w' => e = .returned (.tuple #[.string ⟨#[]⟩, .string ⟨#[]⟩, .int .i64 (rightC n k1 k2)]) ∧ Below w.heap.size w w' := by
  obtain ⟨w1, hw1⟩ : ∃ w1, w.alloc (.cells #[.slice A1 k1 c1, .slice A2 k2 c2] 47) = w1 := ⟨_, rfl⟩
  have HB : Hid (Below w.heap.size w w1) := by rw [← hw1]; exact below_alloc (Below.refl _ _) (Nat.le_refl _) _
  have hpc := pair_cells w (.slice A1 k1 c1) (.slice A2 k2 c2) 47
  rw [hw1] at hpc
  have q := Lib.hid (cright_any n A1 A2 k1 c1 k2 c2 w.heap.size w1 hpc.1 hpc.2 hk1 hk2)
  have t1 : (rightC n k1 k2 == 0) = false := beq_eq_false_iff_ne.2 hb
  have t2 : (rightC n k1 k2 != 0) = true := by rw [bne, t1]; rfl
  generalize rightC n k1 k2 = E at *
  have HW := Lib.hid hw1
  clear hw1 hpc hb
  go_enter Tryd.func83, Tryd.ntmps83
  go_wp2_with fail
  rw [HW.out]
  refine q.out.mono ?_
  rintro e w2 ⟨rfl, rfl⟩
  go_wp2_with fail
  go_ret3
  exact ⟨rfl, HB.out⟩

/-- What is found, of two rows whose hashes are these. -/
def foundS (a b : List ByteArray) (ha hb x y : ByteArray) : ByteArray × ByteArray × Int :=
  if a.length = b.length ∧ ha = hb then (if a = b then (⟨#[]⟩, ⟨#[]⟩, 7) else (x, y, 0)) else (⟨#[]⟩, ⟨#[]⟩, 12)

set_option maxRecDepth 100000 in
set_option maxHeartbeats 1000000 in
theorem found_in_Find (m : Nat) (hm : Hid (1 ≤ m ∧ m ≤ 32)) (a b : List ByteArray) (va vb : Value) (p px py pz : Nat) (ha hb x y : ByteArray) (w : World) (Ha : Hid (StrsAt w va a)) (Hb : Hid (StrsAt w vb b)) (h4 : a.length ≤ 4096) (h5 : b.length ≤ 4096)
    (q1 : Hid (∀ w', Below w.heap.size w w' → Calls Tryd.prog 82 #[va, .pointer (some ⟨p, 0, none⟩)] w' fun e w'' => e = .returned (.string ha) ∧ Below w'.heap.size w' w''))
    (q2 : Hid (∀ w', Below w.heap.size w w' → Calls Tryd.prog 82 #[vb, .pointer (some ⟨p, 0, none⟩)] w' fun e w'' => e = .returned (.string hb) ∧ Below w'.heap.size w' w''))
    (q3 : Hid (a.length = b.length → ha = hb → ¬ a = b → ∀ w', Below w.heap.size w w' → Calls Tryd.prog 84 #[.pointer (some ⟨px, 0, none⟩), .pointer (some ⟨py, 0, none⟩), .pointer (some ⟨pz, 0, none⟩)] w' fun e w'' => e = .returned (.tuple #[.string x, .string y]) ∧ Below w'.heap.size w' w'')) :
    Calls Tryd.prog 83 #[va, vb, .int .i64 m, .func (.func 82) #[] #[.pointer (some ⟨p, 0, none⟩)], .func (.func 84) #[] #[.pointer (some ⟨px, 0, none⟩), .pointer (some ⟨py, 0, none⟩), .pointer (some ⟨pz, 0, none⟩)]] w fun e w' => e = .returned (.tuple #[.string (foundS a b ha hb x y).1, .string (foundS a b ha hb x y).2.1, .int .i64 (foundS a b ha hb x y).2.2]) ∧ Below w.heap.size w w' := by
  obtain ⟨A1, c1, rfl, hc1, _⟩ := Ha.out
  obtain ⟨A2, c2, rfl, hc2, _⟩ := Hb.out
  obtain ⟨w1, hw1⟩ : ∃ w1, w.alloc (.cells #[.slice A1 a.length c1, .slice A2 b.length c2] 47) = w1 := ⟨_, rfl⟩
  have HB : Hid (Below w.heap.size w w1) := by rw [← hw1]; exact below_alloc (Below.refl _ _) (Nat.le_refl _) _
  have hpc := pair_cells w (.slice A1 a.length c1) (.slice A2 b.length c2) 47
  rw [hw1] at hpc
  have q := Lib.hid (cright_any m A1 A2 a.length c1 b.length c2 w.heap.size w1 hpc.1 hpc.2 (by omega) (by omega))
  have hm2 := hm.out
  rw [show rightC (m : Int) a.length b.length = 0 by unfold rightC; rw [if_neg (by omega), if_neg (by omega)]] at q
  have HW := Lib.hid hw1
  have Ha1 := Lib.hid (Ha.out.call HB.out)
  have Hb1 := Lib.hid (Hb.out.call HB.out)
  clear hw1 hpc hm2
  by_cases hl : a.length = b.length
  · by_cases hh : ha = hb
    · have hbn : (ha.toList != ha.toList) = false := by simp
      have qe := Lib.hid (fun (w : World) (h1 : Hid (StrsAt w (.slice A1 a.length c1) a)) (h2 : Hid (StrsAt w (.slice A2 b.length c2) b)) => Eq_any _ _ a b w h1 h2 (by omega))
      by_cases hab : a = b
      · rw [show foundS a b ha hb x y = (⟨#[]⟩, ⟨#[]⟩, 7) by unfold foundS; rw [if_pos ⟨hl, hh⟩, if_pos hab]]
        simp only []
        rw [decide_eq_true hab] at qe
        subst hh
        rw [← hl] at q2 Hb1 qe HW ⊢
        generalize a.length = k at *
        clear q3 hab hl
        go_enter Tryd.func83, Tryd.ntmps83
        go_wp2_with fail
        rw [HW.out]
        refine q.out.mono ?_
        rintro e w2 ⟨rfl, rfl⟩
        go_wp2_with fail
        with_reducible refine (q1.out _ HB.out).mono ?_
        rintro e w2 ⟨rfl, hb⟩
        have HB2 := Lib.hid (HB.out.trans (hb.mono HB.out.size))
        have Ha2 := Lib.hid (Ha1.out.call hb)
        have Hb2 := Lib.hid (Hb1.out.call hb)
        clear hb
        go_wp2_with fail
        with_reducible refine (q2.out _ HB2.out).mono ?_
        rintro e w3 ⟨rfl, hb⟩
        have HB3 := Lib.hid (HB2.out.trans (hb.mono HB2.out.size))
        have Ha3 := Lib.hid (Ha2.out.call hb)
        have Hb3 := Lib.hid (Hb2.out.call hb)
        clear hb
        go_wp2_with fail
        with_reducible refine (qe.out _ Ha3 Hb3).mono ?_
        rintro e w4 ⟨rfl, hb⟩
        have HB4 := Lib.hid (HB3.out.trans (hb.mono HB3.out.size))
        clear hb
        go_wp2_with fail
        go_ret3
        exact ⟨rfl, HB4.out⟩
      · rw [show foundS a b ha hb x y = (x, y, 0) by unfold foundS; rw [if_pos ⟨hl, hh⟩, if_neg hab]]
        simp only []
        rw [decide_eq_false hab] at qe
        have Q3 := Lib.hid (q3.out hl hh hab)
        clear q3
        subst hh
        rw [← hl] at q2 Hb1 qe HW ⊢
        generalize a.length = k at *
        clear hab hl
        go_enter Tryd.func83, Tryd.ntmps83
        go_wp2_with fail
        rw [HW.out]
        refine q.out.mono ?_
        rintro e w2 ⟨rfl, rfl⟩
        go_wp2_with fail
        with_reducible refine (q1.out _ HB.out).mono ?_
        rintro e w2 ⟨rfl, hb⟩
        have HB2 := Lib.hid (HB.out.trans (hb.mono HB.out.size))
        have Ha2 := Lib.hid (Ha1.out.call hb)
        have Hb2 := Lib.hid (Hb1.out.call hb)
        clear hb
        go_wp2_with fail
        with_reducible refine (q2.out _ HB2.out).mono ?_
        rintro e w3 ⟨rfl, hb⟩
        have HB3 := Lib.hid (HB2.out.trans (hb.mono HB2.out.size))
        have Ha3 := Lib.hid (Ha2.out.call hb)
        have Hb3 := Lib.hid (Hb2.out.call hb)
        clear hb
        go_wp2_with fail
        with_reducible refine (qe.out _ Ha3 Hb3).mono ?_
        rintro e w4 ⟨rfl, hb⟩
        have HB4 := Lib.hid (HB3.out.trans (hb.mono HB3.out.size))
        clear hb
        go_wp2_with fail
        with_reducible refine (Q3.out _ HB4.out).mono ?_
        rintro e w5 ⟨rfl, hb⟩
        have HB5 := Lib.hid (HB4.out.trans (hb.mono HB4.out.size))
        clear hb
        go_wp2_with fail
        go_ret3
        exact ⟨rfl, HB5.out⟩
    · rw [show foundS a b ha hb x y = (⟨#[]⟩, ⟨#[]⟩, 12) by unfold foundS; rw [if_neg (fun h => hh h.2)]]
      simp only []
      have hbn : (ha.toList == hb.toList) = false := strs_ne hh
      rw [← hl] at q2 Hb1 HW ⊢
      generalize a.length = k at *
      clear q3 hl hh
      go_enter Tryd.func83, Tryd.ntmps83
      go_wp2_with fail
      rw [HW.out]
      refine q.out.mono ?_
      rintro e w2 ⟨rfl, rfl⟩
      go_wp2_with fail
      with_reducible refine (q1.out _ HB.out).mono ?_
      rintro e w2 ⟨rfl, hb⟩
      have HB2 := Lib.hid (HB.out.trans (hb.mono HB.out.size))
      clear hb
      go_wp2_with fail
      with_reducible refine (q2.out _ HB2.out).mono ?_
      rintro e w3 ⟨rfl, hb⟩
      have HB3 := Lib.hid (HB2.out.trans (hb.mono HB2.out.size))
      clear hb
      go_wp2_with fail
      go_ret3
      exact ⟨rfl, HB3.out⟩
  · rw [show foundS a b ha hb x y = (⟨#[]⟩, ⟨#[]⟩, 12) by unfold foundS; rw [if_neg (fun h => hl h.1)]]
    simp only []
    have t1 : ((a.length : Int) != (b.length : Int)) = true := by simp; omega
    generalize a.length = k at *
    generalize b.length = k2 at *
    clear q3 hl
    go_enter Tryd.func83, Tryd.ntmps83
    go_wp2_with fail
    rw [HW.out]
    refine q.out.mono ?_
    rintro e w2 ⟨rfl, rfl⟩
    go_wp2_with fail
    go_ret3
    exact ⟨rfl, HB.out⟩
set_option maxRecDepth 100000 in
set_option maxHeartbeats 1000000 in
theorem found_in_Chain (m : Nat) (hm : Hid (1 ≤ m ∧ m ≤ 32)) (a b : List ByteArray) (va vb : Value) (p px py pz : Nat) (ha hb x y : ByteArray) (w : World) (Ha : Hid (StrsAt w va a)) (Hb : Hid (StrsAt w vb b)) (h4 : a.length ≤ 4096) (h5 : b.length ≤ 4096)
    (q1 : Hid (∀ w', Below w.heap.size w w' → Calls Tryd.prog 87 #[va, .pointer (some ⟨p, 0, none⟩)] w' fun e w'' => e = .returned (.string ha) ∧ Below w'.heap.size w' w''))
    (q2 : Hid (∀ w', Below w.heap.size w w' → Calls Tryd.prog 87 #[vb, .pointer (some ⟨p, 0, none⟩)] w' fun e w'' => e = .returned (.string hb) ∧ Below w'.heap.size w' w''))
    (q3 : Hid (a.length = b.length → ha = hb → ¬ a = b → ∀ w', Below w.heap.size w w' → Calls Tryd.prog 89 #[.pointer (some ⟨px, 0, none⟩), .pointer (some ⟨py, 0, none⟩), .pointer (some ⟨pz, 0, none⟩)] w' fun e w'' => e = .returned (.tuple #[.string x, .string y]) ∧ Below w'.heap.size w' w'')) :
    Calls Tryd.prog 83 #[va, vb, .int .i64 m, .func (.func 87) #[] #[.pointer (some ⟨p, 0, none⟩)], .func (.func 89) #[] #[.pointer (some ⟨px, 0, none⟩), .pointer (some ⟨py, 0, none⟩), .pointer (some ⟨pz, 0, none⟩)]] w fun e w' => e = .returned (.tuple #[.string (foundS a b ha hb x y).1, .string (foundS a b ha hb x y).2.1, .int .i64 (foundS a b ha hb x y).2.2]) ∧ Below w.heap.size w w' := by
  obtain ⟨A1, c1, rfl, hc1, _⟩ := Ha.out
  obtain ⟨A2, c2, rfl, hc2, _⟩ := Hb.out
  obtain ⟨w1, hw1⟩ : ∃ w1, w.alloc (.cells #[.slice A1 a.length c1, .slice A2 b.length c2] 47) = w1 := ⟨_, rfl⟩
  have HB : Hid (Below w.heap.size w w1) := by rw [← hw1]; exact below_alloc (Below.refl _ _) (Nat.le_refl _) _
  have hpc := pair_cells w (.slice A1 a.length c1) (.slice A2 b.length c2) 47
  rw [hw1] at hpc
  have q := Lib.hid (cright_any m A1 A2 a.length c1 b.length c2 w.heap.size w1 hpc.1 hpc.2 (by omega) (by omega))
  have hm2 := hm.out
  rw [show rightC (m : Int) a.length b.length = 0 by unfold rightC; rw [if_neg (by omega), if_neg (by omega)]] at q
  have HW := Lib.hid hw1
  have Ha1 := Lib.hid (Ha.out.call HB.out)
  have Hb1 := Lib.hid (Hb.out.call HB.out)
  clear hw1 hpc hm2
  by_cases hl : a.length = b.length
  · by_cases hh : ha = hb
    · have hbn : (ha.toList != ha.toList) = false := by simp
      have qe := Lib.hid (fun (w : World) (h1 : Hid (StrsAt w (.slice A1 a.length c1) a)) (h2 : Hid (StrsAt w (.slice A2 b.length c2) b)) => Eq_any _ _ a b w h1 h2 (by omega))
      by_cases hab : a = b
      · rw [show foundS a b ha hb x y = (⟨#[]⟩, ⟨#[]⟩, 7) by unfold foundS; rw [if_pos ⟨hl, hh⟩, if_pos hab]]
        simp only []
        rw [decide_eq_true hab] at qe
        subst hh
        rw [← hl] at q2 Hb1 qe HW ⊢
        generalize a.length = k at *
        clear q3 hab hl
        go_enter Tryd.func83, Tryd.ntmps83
        go_wp2_with fail
        rw [HW.out]
        refine q.out.mono ?_
        rintro e w2 ⟨rfl, rfl⟩
        go_wp2_with fail
        with_reducible refine (q1.out _ HB.out).mono ?_
        rintro e w2 ⟨rfl, hb⟩
        have HB2 := Lib.hid (HB.out.trans (hb.mono HB.out.size))
        have Ha2 := Lib.hid (Ha1.out.call hb)
        have Hb2 := Lib.hid (Hb1.out.call hb)
        clear hb
        go_wp2_with fail
        with_reducible refine (q2.out _ HB2.out).mono ?_
        rintro e w3 ⟨rfl, hb⟩
        have HB3 := Lib.hid (HB2.out.trans (hb.mono HB2.out.size))
        have Ha3 := Lib.hid (Ha2.out.call hb)
        have Hb3 := Lib.hid (Hb2.out.call hb)
        clear hb
        go_wp2_with fail
        with_reducible refine (qe.out _ Ha3 Hb3).mono ?_
        rintro e w4 ⟨rfl, hb⟩
        have HB4 := Lib.hid (HB3.out.trans (hb.mono HB3.out.size))
        clear hb
        go_wp2_with fail
        go_ret3
        exact ⟨rfl, HB4.out⟩
      · rw [show foundS a b ha hb x y = (x, y, 0) by unfold foundS; rw [if_pos ⟨hl, hh⟩, if_neg hab]]
        simp only []
        rw [decide_eq_false hab] at qe
        have Q3 := Lib.hid (q3.out hl hh hab)
        clear q3
        subst hh
        rw [← hl] at q2 Hb1 qe HW ⊢
        generalize a.length = k at *
        clear hab hl
        go_enter Tryd.func83, Tryd.ntmps83
        go_wp2_with fail
        rw [HW.out]
        refine q.out.mono ?_
        rintro e w2 ⟨rfl, rfl⟩
        go_wp2_with fail
        with_reducible refine (q1.out _ HB.out).mono ?_
        rintro e w2 ⟨rfl, hb⟩
        have HB2 := Lib.hid (HB.out.trans (hb.mono HB.out.size))
        have Ha2 := Lib.hid (Ha1.out.call hb)
        have Hb2 := Lib.hid (Hb1.out.call hb)
        clear hb
        go_wp2_with fail
        with_reducible refine (q2.out _ HB2.out).mono ?_
        rintro e w3 ⟨rfl, hb⟩
        have HB3 := Lib.hid (HB2.out.trans (hb.mono HB2.out.size))
        have Ha3 := Lib.hid (Ha2.out.call hb)
        have Hb3 := Lib.hid (Hb2.out.call hb)
        clear hb
        go_wp2_with fail
        with_reducible refine (qe.out _ Ha3 Hb3).mono ?_
        rintro e w4 ⟨rfl, hb⟩
        have HB4 := Lib.hid (HB3.out.trans (hb.mono HB3.out.size))
        clear hb
        go_wp2_with fail
        with_reducible refine (Q3.out _ HB4.out).mono ?_
        rintro e w5 ⟨rfl, hb⟩
        have HB5 := Lib.hid (HB4.out.trans (hb.mono HB4.out.size))
        clear hb
        go_wp2_with fail
        go_ret3
        exact ⟨rfl, HB5.out⟩
    · rw [show foundS a b ha hb x y = (⟨#[]⟩, ⟨#[]⟩, 12) by unfold foundS; rw [if_neg (fun h => hh h.2)]]
      simp only []
      have hbn : (ha.toList == hb.toList) = false := strs_ne hh
      rw [← hl] at q2 Hb1 HW ⊢
      generalize a.length = k at *
      clear q3 hl hh
      go_enter Tryd.func83, Tryd.ntmps83
      go_wp2_with fail
      rw [HW.out]
      refine q.out.mono ?_
      rintro e w2 ⟨rfl, rfl⟩
      go_wp2_with fail
      with_reducible refine (q1.out _ HB.out).mono ?_
      rintro e w2 ⟨rfl, hb⟩
      have HB2 := Lib.hid (HB.out.trans (hb.mono HB.out.size))
      clear hb
      go_wp2_with fail
      with_reducible refine (q2.out _ HB2.out).mono ?_
      rintro e w3 ⟨rfl, hb⟩
      have HB3 := Lib.hid (HB2.out.trans (hb.mono HB2.out.size))
      clear hb
      go_wp2_with fail
      go_ret3
      exact ⟨rfl, HB3.out⟩
  · rw [show foundS a b ha hb x y = (⟨#[]⟩, ⟨#[]⟩, 12) by unfold foundS; rw [if_neg (fun h => hl h.1)]]
    simp only []
    have t1 : ((a.length : Int) != (b.length : Int)) = true := by simp; omega
    generalize a.length = k at *
    generalize b.length = k2 at *
    clear q3 hl
    go_enter Tryd.func83, Tryd.ntmps83
    go_wp2_with fail
    rw [HW.out]
    refine q.out.mono ?_
    rintro e w2 ⟨rfl, rfl⟩
    go_wp2_with fail
    go_ret3
    exact ⟨rfl, HB.out⟩

theorem boxC {w w' : World} {p : Nat} {v : Value} {t : TypeId} (h : w.heap[p]? = some (.cells #[v] t (0, 0))) (hb : Below w.heap.size w w') : w'.cell? ⟨p, 0, none⟩ = some v := cells_of_blk (blk_call h hb) 0 _ rfl

set_option maxRecDepth 100000 in
theorem Find1_any (K : Nat → Int) (H : St) (m : Nat) (hm : Hid (1 ≤ m ∧ m ≤ 32)) (p : Nat) (l : List ByteArray) (v : Value) (w : World) (hT : Hid (ShaT w K H)) (hv : Hid (StrsAt w v l)) (hF : Hid (Fine l)) (hl : l.length ≤ 4096) (hp : w.cell? ⟨p, 0, none⟩ = some (.int .i64 m)) :
    Calls Tryd.prog 82 #[v, .pointer (some ⟨p, 0, none⟩)] w fun e w' => e = .returned (.string (rootS K H m l)) ∧ Below w.heap.size w w' := by
  have q := Lib.hid (Root_in K H m hm l v w hT hv hF hl)
  generalize rootS K H m l = R at *
  clear hv hF hT
  go_enter Tryd.func82, Tryd.ntmps82
  go_wp2_with fail
  refine q.out.mono ?_
  rintro e w1 ⟨rfl, hb⟩
  have HB := Lib.hid hb
  clear hb
  go_wp2_with fail
  go_ret
  exact ⟨rfl, HB.out⟩

set_option maxRecDepth 100000 in
theorem Find2_any (K : Nat → Int) (H : St) (m : Nat) (hm : Hid (1 ≤ m ∧ m ≤ 32)) (px py pz : Nat) (a b : List ByteArray) (va vb : Value) (w : World) (hl : a.length = b.length) (hne : ¬ a = b) (hT : Hid (ShaT w K H)) (ha : Hid (StrsAt w va a)) (hb : Hid (StrsAt w vb b)) (hFa : Hid (Fine a)) (hFb : Hid (Fine b)) (h4 : a.length ≤ 4096)
    (h1 : w.cell? ⟨px, 0, none⟩ = some va) (h2 : w.cell? ⟨py, 0, none⟩ = some vb) (h3 : w.cell? ⟨pz, 0, none⟩ = some (.int .i64 m)) :
    Calls Tryd.prog 84 #[.pointer (some ⟨px, 0, none⟩), .pointer (some ⟨py, 0, none⟩), .pointer (some ⟨pz, 0, none⟩)] w fun e w' => e = .returned (.tuple #[.string (downS K H m a b).1, .string (downS K H m a b).2]) ∧ Below w.heap.size w w' := by
  have q := Lib.hid (down_any K H m hm a b va vb w hl hne hT ha hb hFa hFb h4)
  obtain ⟨A1, c1, rfl, _, _⟩ := ha.out
  obtain ⟨A2, c2, rfl, _, _⟩ := hb.out
  generalize (downS K H m a b).1 = R1 at *
  generalize (downS K H m a b).2 = R2 at *
  generalize a.length = k at *
  generalize b.length = k2 at *
  clear hne hT ha hb hFa hFb hl
  go_enter Tryd.func84, Tryd.ntmps84
  go_wp2_with fail
  refine q.out.mono ?_
  rintro e w1 ⟨rfl, hb⟩
  have HB := Lib.hid hb
  clear hb
  go_wp2_with fail
  go_ret2
  exact ⟨rfl, HB.out⟩

/-- What Find answers. -/
def findS (K : Nat → Int) (H : St) (m : Nat) (a b : List ByteArray) : ByteArray × ByteArray × Int := foundS a b (rootS K H m a) (rootS K H m b) (downS K H m a b).1 (downS K H m a b).2

theorem box3 (w : World) (u v x : Value) (t s r : TypeId) : (((w.alloc (.cells #[u] t)).alloc (.cells #[v] s)).alloc (.cells #[x] r)).heap[w.heap.size]? = some (.cells #[u] t (0, 0)) ∧
    (((w.alloc (.cells #[u] t)).alloc (.cells #[v] s)).alloc (.cells #[x] r)).heap[w.heap.size + 1]? = some (.cells #[v] s (0, 0)) ∧ (((w.alloc (.cells #[u] t)).alloc (.cells #[v] s)).alloc (.cells #[x] r)).heap[w.heap.size + 1 + 1]? = some (.cells #[x] r (0, 0)) := by
  have k1 := heap_new w (.cells #[u] t)
  have k2 := heap_new (w.alloc (.cells #[u] t)) (.cells #[v] s)
  have k3 := heap_new ((w.alloc (.cells #[u] t)).alloc (.cells #[v] s)) (.cells #[x] r)
  rw [World.size_alloc] at k2
  rw [World.size_alloc, World.size_alloc] at k3
  exact ⟨blk_old (blk_old k1 _) _, blk_old k2 _, k3⟩

set_option maxRecDepth 100000 in
set_option maxHeartbeats 1000000 in
theorem Find_bad (n : Int) (A1 A2 : Option Addr) (k1 c1 k2 c2 : Nat) (w : World) (hk1 : k1 ≤ 9223372036854775807) (hk2 : k2 ≤ 9223372036854775807) (hb : rightC n k1 k2 ≠ 0) :
    Calls Tryd.prog 42 #[.slice A1 k1 c1, .slice A2 k2 c2, .int .i64 n] w fun e w' => e = .returned (.tuple #[.string ⟨#[]⟩, .string ⟨#[]⟩, .int .i64 (rightC n k1 k2)]) ∧ Below w.heap.size w w' := by
  obtain ⟨w1, hw1⟩ : ∃ w1, ((w.alloc (.cells #[.slice A1 k1 c1] 47)).alloc (.cells #[.slice A2 k2 c2] 47)).alloc (.cells #[.int .i64 n] 3) = w1 := ⟨_, rfl⟩
  have HB : Hid (Below w.heap.size w w1) := by rw [← hw1]; exact below_alloc (below_alloc (below_alloc (Below.refl _ _) (Nat.le_refl _) _) (by rw [World.size_alloc]; omega) _) (by rw [World.size_alloc, World.size_alloc]; omega) _
  have hb3 := box3 w (.slice A1 k1 c1) (.slice A2 k2 c2) (.int .i64 n) 47 47 3
  rw [hw1] at hb3
  have g0 := cells_of_blk hb3.1 0 _ rfl
  have g1 := cells_of_blk hb3.2.1 0 _ rfl
  have g2 := cells_of_blk hb3.2.2 0 _ rfl
  have q := Lib.hid (found_bad n A1 A2 k1 c1 k2 c2 82 84 (w.heap.size + 1 + 1) w.heap.size (w.heap.size + 1) (w.heap.size + 1 + 1) w1 hk1 hk2 hb)
  generalize rightC n k1 k2 = E at *
  have HW := Lib.hid hw1
  clear hw1 hb3 hb
  go_enter Tryd.func42, Tryd.ntmps42
  go_wp2_with fail
  rw [HW.out]
  refine q.out.mono ?_
  rintro e w2 ⟨rfl, hb⟩
  have HB2 := Lib.hid (HB.out.trans (hb.mono HB.out.size))
  clear hb
  go_wp2_with fail
  go_ret3
  exact ⟨rfl, HB2.out⟩

set_option maxRecDepth 100000 in
set_option maxHeartbeats 1000000 in
theorem Find_in (K : Nat → Int) (H : St) (m : Nat) (hm : Hid (1 ≤ m ∧ m ≤ 32)) (a b : List ByteArray) (va vb : Value) (w : World) (hT : Hid (ShaT w K H)) (ha : Hid (StrsAt w va a)) (hb : Hid (StrsAt w vb b)) (hFa : Hid (Fine a)) (hFb : Hid (Fine b)) (h4 : a.length ≤ 4096) (h5 : b.length ≤ 4096) :
    Calls Tryd.prog 42 #[va, vb, .int .i64 m] w fun e w' => e = .returned (.tuple #[.string (findS K H m a b).1, .string (findS K H m a b).2.1, .int .i64 (findS K H m a b).2.2]) ∧ Below w.heap.size w w' := by
  have hf : Hid (findS K H m a b = foundS a b (rootS K H m a) (rootS K H m b) (downS K H m a b).1 (downS K H m a b).2) := rfl
  obtain ⟨w1, hw1⟩ : ∃ w1, ((w.alloc (.cells #[va] 47)).alloc (.cells #[vb] 47)).alloc (.cells #[.int .i64 m] 3) = w1 := ⟨_, rfl⟩
  have HB : Hid (Below w.heap.size w w1) := by rw [← hw1]; exact below_alloc (below_alloc (below_alloc (Below.refl _ _) (Nat.le_refl _) _) (by rw [World.size_alloc]; omega) _) (by rw [World.size_alloc, World.size_alloc]; omega) _
  have hb3 := box3 w va vb (.int .i64 m) 47 47 3
  rw [hw1] at hb3
  have Ha := Lib.hid (ha.out.call HB.out)
  have Hb := Lib.hid (hb.out.call HB.out)
  have HT := Lib.hid (hT.out.call HB.out)
  have q := Lib.hid (found_in_Find m hm a b va vb (w.heap.size + 1 + 1) w.heap.size (w.heap.size + 1) (w.heap.size + 1 + 1) (rootS K H m a) (rootS K H m b) (downS K H m a b).1 (downS K H m a b).2 w1 Ha Hb h4 h5
    (Lib.hid fun w' hb => Find1_any K H m hm _ a va w' (Lib.hid (HT.out.call hb)) (Lib.hid (Ha.out.call hb)) hFa h4 (boxC hb3.2.2 hb))
    (Lib.hid fun w' hb => Find1_any K H m hm _ b vb w' (Lib.hid (HT.out.call hb)) (Lib.hid (Hb.out.call hb)) hFb h5 (boxC hb3.2.2 hb))
    (Lib.hid fun hl hh hne w' hb => Find2_any K H m hm _ _ _ a b va vb w' hl hne (Lib.hid (HT.out.call hb)) (Lib.hid (Ha.out.call hb)) (Lib.hid (Hb.out.call hb)) hFa hFb h4 (boxC hb3.1 hb) (boxC hb3.2.1 hb) (boxC hb3.2.2 hb)))
  rw [← hf.out] at q
  have g0 := cells_of_blk hb3.1 0 _ rfl
  have g1 := cells_of_blk hb3.2.1 0 _ rfl
  have g2 := cells_of_blk hb3.2.2 0 _ rfl
  obtain ⟨A1, c1, rfl, _, _⟩ := ha.out
  obtain ⟨A2, c2, rfl, _, _⟩ := hb.out
  generalize findS K H m a b = R at *
  obtain ⟨r1, r2, r3⟩ := R
  simp only [] at q ⊢
  have HW := Lib.hid hw1
  clear hw1 hb3 ha hb hT hFa hFb Ha Hb HT hf
  generalize a.length = k1 at *
  generalize b.length = k2 at *
  go_enter Tryd.func42, Tryd.ntmps42
  go_wp2_with fail
  rw [HW.out]
  refine q.out.mono ?_
  rintro e w2 ⟨rfl, hb⟩
  have HB2 := Lib.hid (HB.out.trans (hb.mono HB.out.size))
  clear hb
  go_wp2_with fail
  go_ret3
  exact ⟨rfl, HB2.out⟩
end

section
open Go Go.RowKit
set_option linter.unusedVariables false

def Box3 (w : World) (px py pz : Nat) (u v x : Value) : Prop := w.cell? ⟨px, 0, none⟩ = some u ∧ w.cell? ⟨py, 0, none⟩ = some v ∧ w.cell? ⟨pz, 0, none⟩ = some x ∧ px < w.heap.size ∧ py < w.heap.size ∧ pz < w.heap.size
theorem Box3.call {w w' : World} {px py pz : Nat} {u v x : Value} (h : Box3 w px py pz u v x) (hb : Below w.heap.size w w') : Box3 w' px py pz u v x :=
  ⟨(hb.cell (p := ⟨px, 0, none⟩) h.2.2.2.1).trans h.1, (hb.cell (p := ⟨py, 0, none⟩) h.2.2.2.2.1).trans h.2.1, (hb.cell (p := ⟨pz, 0, none⟩) h.2.2.2.2.2).trans h.2.2.1, Nat.lt_of_lt_of_le h.2.2.2.1 hb.size, Nat.lt_of_lt_of_le h.2.2.2.2.1 hb.size, Nat.lt_of_lt_of_le h.2.2.2.2.2 hb.size⟩

set_option maxRecDepth 100000 in
theorem Chain1_any (K : Nat → Int) (H : St) (m : Nat) (hm : Hid (1 ≤ m ∧ m ≤ 32)) (p : Nat) (l : List ByteArray) (v : Value) (w : World) (hT : Hid (ShaT w K H)) (hv : Hid (StrsAt w v l)) (hF : Hid (Fine l)) (hl : l.length ≤ 4096) (hp : w.cell? ⟨p, 0, none⟩ = some (.int .i64 m)) :
    Calls Tryd.prog 87 #[v, .pointer (some ⟨p, 0, none⟩)] w fun e w' => e = .returned (.string (chainS K H m l)) ∧ Below w.heap.size w w' := by
  have q := Lib.hid (chain_any K H m hm l v w hT hv hF hl)
  generalize chainS K H m l = R at *
  clear hv hF hT
  go_enter Tryd.func87, Tryd.ntmps87
  go_wp2_with fail
  refine q.out.mono ?_
  rintro e w1 ⟨rfl, hb⟩
  have HB := Lib.hid hb
  clear hb
  go_wp2_with fail
  go_ret
  exact ⟨rfl, HB.out⟩

set_option maxRecDepth 100000 in
set_option maxHeartbeats 2000000 in
theorem Chain2_any (K : Nat → Int) (H : St) (m : Nat) (hm : Hid (1 ≤ m ∧ m ≤ 32)) (px py pz : Nat) (a b : List ByteArray) (va vb : Value) (w : World) (hl : a.length = b.length) (hne : ¬ a = b) (hT : Hid (ShaT w K H)) (ha : Hid (StrsAt w va a)) (hb : Hid (StrsAt w vb b)) (hFa : Hid (Fine a)) (hFb : Hid (Fine b)) (h4 : a.length ≤ 4096)
    (hC : Hid (Box3 w px py pz va (.int .i64 m) vb)) :
    Calls Tryd.prog 89 #[.pointer (some ⟨px, 0, none⟩), .pointer (some ⟨py, 0, none⟩), .pointer (some ⟨pz, 0, none⟩)] w fun e w' => e = .returned (.tuple #[.string (clashC K H m a b a.length).1, .string (clashC K H m a b a.length).2]) ∧ Below w.heap.size w w' := by
  have hpos : 0 < a.length := by
    refine Nat.pos_of_ne_zero fun h => hne ?_
    have hb0 : b.length = 0 := by omega
    rw [List.length_eq_zero_iff.1 h, List.length_eq_zero_iff.1 hb0]
  obtain ⟨j0, hj0⟩ : ∃ j0, a.length = j0 + 1 := ⟨a.length - 1, by omega⟩
  have hne0 : Hid (¬ a.take (j0 + 1) = b.take (j0 + 1)) := by
    show ¬ _
    rw [← hj0, List.take_length, hl, List.take_length]
    exact hne
  obtain ⟨A1, c1, rfl, hc1, hi1⟩ := ha.out
  obtain ⟨A2, c2, rfl, hc2, hi2⟩ := hb.out
  obtain ⟨b1, o1, rfl, -, -⟩ := hi1 0 _ (List.getElem?_eq_getElem hpos)
  obtain ⟨b2, o2, rfl, -, -⟩ := hi2 0 _ (List.getElem?_eq_getElem (by omega))
  have g0 := hC.out.1
  have hc3 : j0 + 1 ≤ c1 := by omega
  have hc4 : j0 + 1 ≤ c2 := by omega
  have Hl := Lib.hid hl
  have Hj := Lib.hid hj0
  have qc := Lib.hid (fun (l : List ByteArray) v w hT hv hF hl => chain_any K H m hm l v w hT hv hF hl)
  have ql := Lib.hid (fun h s w h1 h2 => link_any h s w h1 h2)
  obtain ⟨R, hR⟩ : ∃ R, clashC K H m a b a.length = R := ⟨_, rfl⟩
  have hR0 : Hid (clashC K H m a b (j0 + 1) = R) := by show _ = _; rw [← hj0]; exact hR
  rw [hR]
  rw [← hl] at hb hC
  rw [hj0] at ha hb hC g0
  clear hR hi1 hi2 hne hl hc1 hc2
  have hn4 : j0 + 1 ≤ 4096 := by omega
  clear hj0 h4
  go_enter Tryd.func89, Tryd.ntmps89
  go_wp2_with fail
  clear g0
  go_loopw [5] (fun s5 wr => ∃ j : Nat, s5 = .int .i64 j ∧ Hid (j ≤ j0) ∧ Hid (¬ a.take (j + 1) = b.take (j + 1)) ∧ Hid (clashC K H m a b (j + 1) = R) ∧ Hid (ShaT wr K H) ∧ Hid (StrsAt wr (.slice (some ⟨b1, o1, none⟩) (j0 + 1) c1) a) ∧ Hid (StrsAt wr (.slice (some ⟨b2, o2, none⟩) (j0 + 1) c2) b) ∧
    Hid (Box3 wr px py pz (.slice (some ⟨b1, o1, none⟩) (j0 + 1) c1) (.int .i64 m) (.slice (some ⟨b2, o2, none⟩) (j0 + 1) c2)) ∧ Hid (Below w.heap.size w wr)) (fun s5 _ => (intOf s5).toNat)
  case atStart => exact ⟨j0, by go_num, Nat.le_refl _, hne0.out, hR0.out, hT.out, ha.out, hb.out, hC.out, Below.refl _ _⟩
  case round =>
    obtain ⟨j, rfl, hj, hne, hR, hT, ha, hb, hC, hB⟩ := hrel
    have hj2 : j ≤ j0 := hj.out
    have hja : j < a.length := by have := Hj.out; omega
    have hjb : j < b.length := by have := Hl.out; omega
    have hea := List.getElem?_eq_getElem hja
    have heb := List.getElem?_eq_getElem hjb
    obtain ⟨A1', c1', hA1, _, hi1⟩ := ha.out
    obtain ⟨A2', c2', hA2, _, hi2⟩ := hb.out
    obtain ⟨x1, y1, hx1, hbl1, k1⟩ := hi1 j _ hea
    obtain ⟨x2, y2, hx2, hbl2, k2⟩ := hi2 j _ heb
    have hA1a : A1' = some ⟨b1, o1, none⟩ := by injection hA1 with h; exact h.symm
    have hA2a : A2' = some ⟨b2, o2, none⟩ := by injection hA2 with h; exact h.symm
    rw [hA1a] at hx1
    rw [hA2a] at hx2
    cases hx1
    cases hx2
    have za := hFa.out j _ hea
    have zb := hFb.out j _ heb
    have zc1 := chainS_le K H m (a.take j)
    have zc2 := chainS_le K H m (b.take j)
    have la1 : (a.take j).length = j := by rw [List.length_take]; omega
    have la2 : (b.take j).length = j := by rw [List.length_take]; omega
    have hv1 : Hid (StrsAt wr (.slice (some ⟨b1, o1, none⟩) j c1) (a.take j)) := ha.out.head j (by omega)
    have hv2 : Hid (StrsAt wr (.slice (some ⟨b2, o2, none⟩) j c2) (b.take j)) := hb.out.head j (by omega)
    have qE1 := Lib.hid (fun (x : ExtOf wr) => qc.out (a.take j) (.slice (some ⟨b1, o1, none⟩) j c1) x.w (Lib.hid (hT.out.call x.below)) (Lib.hid (hv1.out.call x.below)) (Lib.hid (hFa.out.take j)) (by omega))
    have qE2 := Lib.hid (fun (x : ExtOf wr) => qc.out (b.take j) (.slice (some ⟨b2, o2, none⟩) j c2) x.w (Lib.hid (hT.out.call x.below)) (Lib.hid (hv2.out.call x.below)) (Lib.hid (hFb.out.take j)) (by omega))
    have q3 := Lib.hid (fun w => ql.out (chainS K H m (a.take j)) a[j] w (by show _ ≤ _; omega) (by show _ ≤ _; omega))
    have q4 := Lib.hid (fun w => ql.out (chainS K H m (b.take j)) b[j] w (by show _ ≤ _; omega) (by show _ ≤ _; omega))
    have hst := Lib.hid (link_step K H m hFa.out hFb.out hja hjb)
    have hg := Lib.hid (fun h => clashC_go K H m (a := a) (b := b) (k := j) h)
    have hs := Lib.hid (fun h => clashC_stop K H m (a := a) (b := b) (k := j) h)
    rw [← linkAt_get K H m hea] at q3
    rw [← linkAt_get K H m heb] at q4
    generalize linkAt K H m a j = X at *
    generalize linkAt K H m b j = Y at *
    generalize chainS K H m (a.take j) = C1 at *
    generalize chainS K H m (b.take j) = C2 at *
    generalize a[j] = s at *
    generalize b[j] = t at *
    have g0 := hC.out.1
    have g1 := hC.out.2.1
    have g2 := hC.out.2.2.1
    have z0 := hC.out.2.2.2.1
    have z1 := hC.out.2.2.2.2.1
    have z2 := hC.out.2.2.2.2.2
    have hjj : j < j0 + 1 := by omega
    clear hea heb hi1 hi2 hA1 hA2 hA1a hA2a la1 la2 hv1 hv2 hja hjb za zb
    go_wp2_with fail
    refine wp_region_ext (by kernel_rfl) (by kernel_rfl) ?_
    repeat (go_big_quiet_step (first | (with_reducible exact ext_call (qE1.out _)) | (with_reducible exact ext_call (qE2.out _)) | (with_reducible exact ext_call (q3.out _)) | (with_reducible exact ext_call (q4.out _))))
    refine wpQuiet_nil ?_
    rintro w' ⟨y, rfl⟩
    have HB1 := Lib.hid (hB.out.trans (y.below.mono hB.out.size))
    have hT1 := Lib.hid (hT.out.call y.below)
    have ha1 := Lib.hid (ha.out.call y.below)
    have hb1 := Lib.hid (hb.out.call y.below)
    have hC1 := Lib.hid (hC.out.call y.below)
    generalize y.w = w1 at *
    clear y qE1 qE2 q3 q4 g0 g1 g2 z0 z1 z2 k1 k2 hT ha hb hC hB
    by_cases he : X = Y
    · have h1 := hst.out he hne.out
      have hj1 : j ≠ 0 := fun h => h1.1 (by rw [h]; rfl)
      have HN := Lib.hid h1.1
      have HR2 : Hid (clashC K H m a b j = R) := (hg.out he).symm.trans hR.out
      obtain ⟨i, rfl⟩ : ∃ i, j = i + 1 := ⟨j - 1, by omega⟩
      have hbn : (X.toList != X.toList) = false := by simp
      subst he
      clear h1 hst hg hs hne hR hj1
      go_wp2_with fail
      go_roundw
      case rel => exact ⟨i, by go_num, by show _ ≤ _; omega, HN.out, HR2.out, hT1.out, ha1.out, hb1.out, hC1.out, HB1.out⟩
      case measure => simp [intOf]
    · have hbn : (X.toList == Y.toList) = false := strs_ne he
      have HR2 : Hid (R = (X, Y)) := hR.out.symm.trans (hs.out he)
      clear hst hg hs hne hR
      go_wp2_with fail
      go_ret2
      rw [HR2.out]
      exact ⟨rfl, HB1.out⟩

/-- What Chain answers. -/
def chainV (K : Nat → Int) (H : St) (m : Nat) (a b : List ByteArray) : ByteArray × ByteArray × Int := foundS a b (chainS K H m a) (chainS K H m b) (clashC K H m a b a.length).1 (clashC K H m a b a.length).2

set_option maxRecDepth 100000 in
set_option maxHeartbeats 1000000 in
theorem Chain_bad4 (n : Int) (A1 A2 : Option Addr) (k1 c1 k2 c2 : Nat) (w : World) (hk1 : k1 ≤ 9223372036854775807) (hk2 : k2 ≤ 9223372036854775807) (hb : rightC n k1 k2 ≠ 0) :
    Calls Tryd.prog 44 #[.slice A1 k1 c1, .slice A2 k2 c2, .int .i64 n] w fun e w' => e = .returned (.tuple #[.string ⟨#[]⟩, .string ⟨#[]⟩, .int .i64 (rightC n k1 k2)]) ∧ Below w.heap.size w w' := by
  obtain ⟨w1, hw1⟩ : ∃ w1, ((w.alloc (.cells #[.slice A1 k1 c1] 47)).alloc (.cells #[.slice A2 k2 c2] 47)).alloc (.cells #[.int .i64 n] 3) = w1 := ⟨_, rfl⟩
  have HB : Hid (Below w.heap.size w w1) := by rw [← hw1]; exact below_alloc (below_alloc (below_alloc (Below.refl _ _) (Nat.le_refl _) _) (by rw [World.size_alloc]; omega) _) (by rw [World.size_alloc, World.size_alloc]; omega) _
  have hb3 := box3 w (.slice A1 k1 c1) (.slice A2 k2 c2) (.int .i64 n) 47 47 3
  rw [hw1] at hb3
  have g0 := cells_of_blk hb3.1 0 _ rfl
  have g1 := cells_of_blk hb3.2.1 0 _ rfl
  have g2 := cells_of_blk hb3.2.2 0 _ rfl
  have q := Lib.hid (found_bad n A1 A2 k1 c1 k2 c2 87 89 (w.heap.size + 1 + 1) w.heap.size (w.heap.size + 1 + 1) (w.heap.size + 1) w1 hk1 hk2 hb)
  generalize rightC n k1 k2 = E at *
  have HW := Lib.hid hw1
  clear hw1 hb3 hb
  go_enter Tryd.func44, Tryd.ntmps44
  go_wp2_with fail
  rw [HW.out]
  refine q.out.mono ?_
  rintro e w2 ⟨rfl, hb⟩
  have HB2 := Lib.hid (HB.out.trans (hb.mono HB.out.size))
  clear hb
  go_wp2_with fail
  go_ret3
  exact ⟨rfl, HB2.out⟩

set_option maxRecDepth 100000 in
set_option maxHeartbeats 1000000 in
theorem Chain_in (K : Nat → Int) (H : St) (m : Nat) (hm : Hid (1 ≤ m ∧ m ≤ 32)) (a b : List ByteArray) (va vb : Value) (w : World) (hT : Hid (ShaT w K H)) (ha : Hid (StrsAt w va a)) (hb : Hid (StrsAt w vb b)) (hFa : Hid (Fine a)) (hFb : Hid (Fine b)) (h4 : a.length ≤ 4096) (h5 : b.length ≤ 4096) :
    Calls Tryd.prog 44 #[va, vb, .int .i64 m] w fun e w' => e = .returned (.tuple #[.string (chainV K H m a b).1, .string (chainV K H m a b).2.1, .int .i64 (chainV K H m a b).2.2]) ∧ Below w.heap.size w w' := by
  have hf : Hid (chainV K H m a b = foundS a b (chainS K H m a) (chainS K H m b) (clashC K H m a b a.length).1 (clashC K H m a b a.length).2) := rfl
  obtain ⟨w1, hw1⟩ : ∃ w1, ((w.alloc (.cells #[va] 47)).alloc (.cells #[vb] 47)).alloc (.cells #[.int .i64 m] 3) = w1 := ⟨_, rfl⟩
  have HB : Hid (Below w.heap.size w w1) := by rw [← hw1]; exact below_alloc (below_alloc (below_alloc (Below.refl _ _) (Nat.le_refl _) _) (by rw [World.size_alloc]; omega) _) (by rw [World.size_alloc, World.size_alloc]; omega) _
  have hb3 := box3 w va vb (.int .i64 m) 47 47 3
  rw [hw1] at hb3
  have Ha := Lib.hid (ha.out.call HB.out)
  have Hb := Lib.hid (hb.out.call HB.out)
  have HT := Lib.hid (hT.out.call HB.out)
  have hBx : Hid (Box3 w1 w.heap.size (w.heap.size + 1 + 1) (w.heap.size + 1) va (.int .i64 m) vb) := ⟨cells_of_blk hb3.1 0 _ rfl, cells_of_blk hb3.2.2 0 _ rfl, cells_of_blk hb3.2.1 0 _ rfl, (Array.getElem?_eq_some_iff.1 hb3.1).1, (Array.getElem?_eq_some_iff.1 hb3.2.2).1, (Array.getElem?_eq_some_iff.1 hb3.2.1).1⟩
  have q := Lib.hid (found_in_Chain m hm a b va vb (w.heap.size + 1 + 1) w.heap.size (w.heap.size + 1 + 1) (w.heap.size + 1) (chainS K H m a) (chainS K H m b) (clashC K H m a b a.length).1 (clashC K H m a b a.length).2 w1 Ha Hb h4 h5
    (Lib.hid fun w' hb => Chain1_any K H m hm _ a va w' (Lib.hid (HT.out.call hb)) (Lib.hid (Ha.out.call hb)) hFa h4 (boxC hb3.2.2 hb))
    (Lib.hid fun w' hb => Chain1_any K H m hm _ b vb w' (Lib.hid (HT.out.call hb)) (Lib.hid (Hb.out.call hb)) hFb h5 (boxC hb3.2.2 hb))
    (Lib.hid fun hl hh hne w' hb => Chain2_any K H m hm _ _ _ a b va vb w' hl hne (Lib.hid (HT.out.call hb)) (Lib.hid (Ha.out.call hb)) (Lib.hid (Hb.out.call hb)) hFa hFb h4 (Lib.hid (hBx.out.call hb))))
  rw [← hf.out] at q
  have g0 := cells_of_blk hb3.1 0 _ rfl
  have g1 := cells_of_blk hb3.2.1 0 _ rfl
  have g2 := cells_of_blk hb3.2.2 0 _ rfl
  obtain ⟨A1, c1, rfl, _, _⟩ := ha.out
  obtain ⟨A2, c2, rfl, _, _⟩ := hb.out
  generalize chainV K H m a b = R at *
  obtain ⟨r1, r2, r3⟩ := R
  simp only [] at q ⊢
  have HW := Lib.hid hw1
  clear hw1 hb3 ha hb hT hFa hFb Ha Hb HT hf hBx
  generalize a.length = k1 at *
  generalize b.length = k2 at *
  go_enter Tryd.func44, Tryd.ntmps44
  go_wp2_with fail
  rw [HW.out]
  refine q.out.mono ?_
  rintro e w2 ⟨rfl, hb⟩
  have HB2 := Lib.hid (HB.out.trans (hb.mono HB.out.size))
  clear hb
  go_wp2_with fail
  go_ret3
  exact ⟨rfl, HB2.out⟩
end

end Go.Proofs.YtaigngdlioplaaaDoor
