/- The reference's numbers: at, less, trim. -/
import Derived.Test.YtfkfpppiikgjbaaBigP
import Derived.Test.YtfkfpppiikgjbaaMoneyC
import Derived.Test.YtfkfpppiikgjbaaRegT
namespace Go.Proofs.Ytfkfpppiikgjbaa
open Go Go.RowKit Bg
set_option linter.unusedVariables false

/-- Digits that lie in memory. -/
def DigAt (w : World) (A : Option Addr) (n : Nat) (f : Nat → Nat) : Prop :=
  ∀ i, i < n → ∃ b o, A = some ⟨b, o, none⟩ ∧ b < w.heap.size ∧ w.cell? ⟨b, o + i, none⟩ = some (.int .i64 (f i))
theorem DigAt.call {w w' : World} {A : Option Addr} {n : Nat} {f : Nat → Nat} (h : DigAt w A n f) (hb : Below w.heap.size w w') : DigAt w' A n f := fun i hi => by
  obtain ⟨b, o, e, hlt, hc⟩ := h i hi
  exact ⟨b, o, e, Nat.lt_of_lt_of_le hlt hb.size, (hb.cell (p := ⟨b, o + i, none⟩) hlt).trans hc⟩
theorem DigAt.below {B : Nat} {w w' : World} {A : Option Addr} {n : Nat} {f : Nat → Nat} (h : DigAt w A n f) (hA : ∀ a, A = some a → a.block < B) (hb : Below B w w') : DigAt w' A n f := fun i hi => by
  obtain ⟨b, o, e, hlt, hc⟩ := h i hi
  have hB := hA _ e
  exact ⟨b, o, e, Nat.lt_of_lt_of_le hlt hb.size, (hb.cell (p := ⟨b, o + i, none⟩) hB).trans hc⟩

/-- A number of the reference's. -/
def BigAt (w : World) (v : Value) (z : Int) : Prop :=
  ∃ A n c f, v = .agg #[.bool (decide (z < 0)), .slice A n c] ∧ Canon f n ∧ pv f n = z.natAbs ∧ DigAt w A n f ∧ n ≤ c
theorem BigAt.call {w w' : World} {v : Value} {z : Int} (h : BigAt w v z) (hb : Below w.heap.size w w') : BigAt w' v z := by
  obtain ⟨A, n, c, f, e, hc, hv, hd, hn⟩ := h
  exact ⟨A, n, c, f, e, hc, hv, hd.call hb, hn⟩

theorem at_any (A : Option Addr) (n c : Nat) (f : Nat → Nat) (i : Nat) (w : World) (hd : Hid (DigAt w A n f)) (hf : Hid (Dg f n)) (hi : i ≤ 1099511627776) (hn : n ≤ 1099511627776) :
    Calls Try.prog 132 #[.slice A n c, .int .i64 i] w fun e w' => e = .returned (.int .i64 (f i)) ∧ w = w' := by
  by_cases h : i < n
  · obtain ⟨b, o, rfl, hlt, hc⟩ := hd.out i h
    have h' : (i : Int) < n := by omega
    go_enter Try.func132, Try.ntmps132
    go_wp2
    go_ret
    exact ⟨rfl, rfl⟩
  · have h' : ¬ ((i : Int) < n) := by omega
    rw [hf.out.zero i (by omega)]
    go_enter Try.func132, Try.ntmps132
    go_wp2
    go_ret
    exact ⟨rfl, rfl⟩

set_option maxRecDepth 100000 in
set_option maxHeartbeats 1000000 in
theorem less_any (A B : Option Addr) (n m c d : Nat) (f g : Nat → Nat) (w : World) (hA : Hid (DigAt w A n f)) (hB : Hid (DigAt w B m g)) (hf : Hid (Dg f n)) (hg : Hid (Dg g m)) (hn : n ≤ 1000000) (hm : m ≤ 1000000) :
    Calls Try.prog 134 #[.slice A n c, .slice B m d] w fun e w' => e = .returned (.bool (decide (pv f n < pv g m))) ∧ w = w' := by
  have qA := Lib.hid (fun i h => at_any A n c f i w hA hf h (by omega))
  have qB := Lib.hid (fun i h => at_any B m d g i w hB hg h (by omega))
  obtain ⟨N, hN⟩ : ∃ N, (if n < m then m else n) = N := ⟨_, rfl⟩
  have hN1 : n ≤ N := by rw [← hN]; split <;> omega
  have hN2 : m ≤ N := by rw [← hN]; split <;> omega
  have e1 := pv_more hf.out.zero N hN1
  have e2 := pv_more hg.out.zero N hN2
  rw [← e1, ← e2]
  clear e1 e2
  by_cases hnm : n < m
  · have hnm' : (n : Int) < m := by omega
    obtain rfl : m = N := by rw [← hN, if_pos hnm]
    clear hN
    go_enter Try.func134, Try.ntmps134
    go_wp2_with fail
    go_loopw [6] (fun s6 wr => ∃ k : Nat, k ≤ m ∧ s6 = .int .i64 ((k : Int) - 1) ∧ Hid (∀ j, k ≤ j → j < m → f j = g j) ∧ wr = w) (fun s6 _ => (intOf s6 + 1).toNat)
    case atStart => exact ⟨m, Nat.le_refl _, rfl, fun j h1 h2 => by omega, rfl⟩
    case round =>
      obtain ⟨k, hk, rfl, HE, rfl⟩ := hrel
      by_cases hk0 : k = 0
      · subst hk0
        have hd : decide (pv f m < pv g m) = false := decide_eq_false (by rw [pv_congr m (fun i hi => HE.out i (Nat.zero_le _) hi)]; omega)
        have HD := Lib.hid hd
        clear hd
        go_wp2_with fail
        go_ret
        exact ⟨by rw [HD.out]; rfl, rfl⟩
      · obtain ⟨j, rfl⟩ : ∃ j, k = j + 1 := ⟨k - 1, by omega⟩
        have ej : ((j + 1 : Nat) : Int) - 1 = (j : Int) := by omega
        rw [ej]
        have q1 := Lib.hid (qA.out j (by omega))
        have q2 := Lib.hid (qB.out j (by omega))
        have HE2 : Hid (∀ i, j < i → i < m → f i = g i) := fun i h1 h2 => HE.out i h1 h2
        have hb1 := hf.out.lt
        have hb2 := hg.out.lt
        by_cases hfg : f j = g j
        · have HE3 : Hid (∀ i, j ≤ i → i < m → f i = g i) := fun i h1 h2 => by
            by_cases e : i = j
            · rw [e]; exact hfg
            · exact HE.out i (by omega) h2
          rw [← hfg] at q2
          clear hfg hk0 ej hb1 hb2 qA qB
          go_wp2_with (go_at_call 132; first | (with_reducible refine q1.out.mono ?_; rintro e w' ⟨rfl, rfl⟩) | (with_reducible refine q2.out.mono ?_; rintro e w' ⟨rfl, rfl⟩))
          go_roundw
          case rel => exact ⟨j, by omega, rfl, HE3.out, trivial⟩
          case measure => simp [intOf]
        · have hne : (((f j : Nat) : Int) != ((g j : Nat) : Int)) = true := by simp; omega
          have hd : decide (pv f m < pv g m) = decide (f j < g j) := by
            by_cases hlt : f j < g j
            · rw [decide_eq_true (pv_cmp hb1 hlt m (by omega) HE2.out), decide_eq_true (by omega)]
            · have := pv_cmp hb2 (show g j < f j by omega) m (by omega) (fun i h1 h2 => (HE2.out i h1 h2).symm)
              rw [decide_eq_false (by omega), decide_eq_false (by omega)]
          have HD := Lib.hid hd
          clear hd hfg hk0 ej hb1 hb2 qA qB HE HE2
          go_wp2_with (go_at_call 132; first | (with_reducible refine q1.out.mono ?_; rintro e w' ⟨rfl, rfl⟩) | (with_reducible refine q2.out.mono ?_; rintro e w' ⟨rfl, rfl⟩))
          go_ret
          exact ⟨by rw [HD.out]; rfl, rfl⟩
  · have hnm' : ¬ ((n : Int) < m) := by omega
    obtain rfl : n = N := by rw [← hN, if_neg hnm]
    clear hN
    go_enter Try.func134, Try.ntmps134
    go_wp2_with fail
    go_loopw [6] (fun s6 wr => ∃ k : Nat, k ≤ n ∧ s6 = .int .i64 ((k : Int) - 1) ∧ Hid (∀ j, k ≤ j → j < n → f j = g j) ∧ wr = w) (fun s6 _ => (intOf s6 + 1).toNat)
    case atStart => exact ⟨n, Nat.le_refl _, rfl, fun j h1 h2 => by omega, rfl⟩
    case round =>
      obtain ⟨k, hk, rfl, HE, rfl⟩ := hrel
      by_cases hk0 : k = 0
      · subst hk0
        have hd : decide (pv f n < pv g n) = false := decide_eq_false (by rw [pv_congr n (fun i hi => HE.out i (Nat.zero_le _) hi)]; omega)
        have HD := Lib.hid hd
        clear hd
        go_wp2_with fail
        go_ret
        exact ⟨by rw [HD.out]; rfl, rfl⟩
      · obtain ⟨j, rfl⟩ : ∃ j, k = j + 1 := ⟨k - 1, by omega⟩
        have ej : ((j + 1 : Nat) : Int) - 1 = (j : Int) := by omega
        rw [ej]
        have q1 := Lib.hid (qA.out j (by omega))
        have q2 := Lib.hid (qB.out j (by omega))
        have HE2 : Hid (∀ i, j < i → i < n → f i = g i) := fun i h1 h2 => HE.out i h1 h2
        have hb1 := hf.out.lt
        have hb2 := hg.out.lt
        by_cases hfg : f j = g j
        · have HE3 : Hid (∀ i, j ≤ i → i < n → f i = g i) := fun i h1 h2 => by
            by_cases e : i = j
            · rw [e]; exact hfg
            · exact HE.out i (by omega) h2
          rw [← hfg] at q2
          clear hfg hk0 ej hb1 hb2 qA qB
          go_wp2_with (go_at_call 132; first | (with_reducible refine q1.out.mono ?_; rintro e w' ⟨rfl, rfl⟩) | (with_reducible refine q2.out.mono ?_; rintro e w' ⟨rfl, rfl⟩))
          go_roundw
          case rel => exact ⟨j, by omega, rfl, HE3.out, trivial⟩
          case measure => simp [intOf]
        · have hne : (((f j : Nat) : Int) != ((g j : Nat) : Int)) = true := by simp; omega
          have hd : decide (pv f n < pv g n) = decide (f j < g j) := by
            by_cases hlt : f j < g j
            · rw [decide_eq_true (pv_cmp hb1 hlt n (by omega) HE2.out), decide_eq_true (by omega)]
            · have := pv_cmp hb2 (show g j < f j by omega) n (by omega) (fun i h1 h2 => (HE2.out i h1 h2).symm)
              rw [decide_eq_false (by omega), decide_eq_false (by omega)]
          have HD := Lib.hid hd
          clear hd hfg hk0 ej hb1 hb2 qA qB HE HE2
          go_wp2_with (go_at_call 132; first | (with_reducible refine q1.out.mono ?_; rintro e w' ⟨rfl, rfl⟩) | (with_reducible refine q2.out.mono ?_; rintro e w' ⟨rfl, rfl⟩))
          go_ret
          exact ⟨by rw [HD.out]; rfl, rfl⟩
end Go.Proofs.Ytfkfpppiikgjbaa
