/- The reference's numbers: Fits (printed by genBigH.py). -/
import Derived.Test.YtfkfpppiikgjbaaBigG
import Derived.Test.YtfkfpppiikgjbaaMoneyP
namespace Go.Proofs.Ytfkfpppiikgjbaa
open Go Go.RowKit Bg
set_option linter.unusedVariables false

/-- The number, if it fits; and whether it does. -/
def fitsP (X : Int) : Int × Bool := if Mon.fits X then (X, true) else (0, false)
theorem fits_in {X : Int} (h : -9223372036854775808 ≤ X ∧ X ≤ 9223372036854775807) : fitsP X = (X, true) := by
  unfold fitsP Mon.fits; rw [if_pos (by simp [h])]
theorem fits_out {X : Int} (h : ¬ (-9223372036854775808 ≤ X ∧ X ≤ 9223372036854775807)) : fitsP X = (0, false) := by
  unfold fitsP Mon.fits; rw [if_neg (by simpa using h)]

structure FitInv (f : Nat → Nat) (n k T : Nat) : Prop where
  all : pv f n = pv f k + T * 10000 ^ k
theorem FitInv.step {f : Nat → Nat} {n j T : Nat} (H : FitInv f n (j + 1) T) : FitInv f n j (T * 10000 + f j) := by
  refine ⟨?_⟩
  have h := H.all
  rw [h, Nat.pow_succ]
  show pv f j + f j * 10000 ^ j + _ = _
  generalize pv f j = v at *
  generalize f j = a at *
  generalize 10000 ^ j = q at *
  grind
theorem FitInv.le {f : Nat → Nat} {n k T : Nat} (H : FitInv f n k T) : T ≤ pv f n := by
  have h := H.all
  have h1 : T * 1 ≤ T * 10000 ^ k := Nat.mul_le_mul_left _ (Nat.pow_pos (by decide))
  omega

set_option maxRecDepth 100000 in
set_option maxHeartbeats 4000000 in
theorem Fits_any (x : Value) (X : Int) (w : World) (hx : Hid (BigAt w x X)) (bX : X.natAbs < 10000 ^ 40) :
    Calls Try.prog 85 #[x] w fun e w' => e = .returned (.tuple #[.int .i64 (fitsP X).1, .bool (fitsP X).2]) ∧ Below w.heap.size w w' := by
  obtain ⟨A, n, c, f, rfl, hc, hv, hd, hn⟩ := hx.out
  have hn40 := canon_len (k := 40) hc (by rw [hv]; exact bX)
  obtain ⟨s, hs⟩ : ∃ s, decide (X < 0) = s := ⟨_, rfl⟩
  rw [hs]
  have Hf : Hid (Dg f n) := hc.toDg
  have h1 := BigBlk.mk w _ s (.slice A n c) rfl
  have hb1 := below_alloc (Below.refl w.heap.size w) (Nat.le_refl _) (.cells #[.bool s, .slice A n c] 118)
  have HA := Lib.hid hd
  have qO := Lib.hid (fun w => Of_any (-9223372036854775808) (by unfold I64; omega) w)
  clear hc hd hx
  go_enter Try.func85, Try.ntmps85
  go_wp2_with fail
  generalize w.alloc (.cells #[.bool s, .slice A n c] 118) = w1 at *
  with_reducible refine (qO.out _).mono ?_
  rintro e w2 ⟨⟨v8, rfl, hv8⟩, hb8⟩
  obtain ⟨A2, n2, c2, f2, rfl, hc2, kv2, hd2, _⟩ := hv8
  have hn2 := canon_len (k := 40) hc2 (by rw [kv2]; decide)
  rw [show decide ((-9223372036854775808 : Int) < 0) = true by decide]
  have kv3 : pv f2 n2 = 9223372036854775808 := by rw [kv2]; decide
  have Hf2 : Hid (Dg f2 n2) := hc2.toDg
  obtain ⟨q, hq⟩ : ∃ q, w2.heap.size = q := ⟨_, rfl⟩
  have K1 := Lib.hid ((h1.call hb8).alloc (.cells #[.bool true, .slice A2 n2 c2] 118))
  have K2 := Lib.hid (BigBlk.mk w2 q true (.slice A2 n2 c2) hq)
  have KB := Lib.hid (below_alloc (hb1.trans (hb8.mono hb1.size)) (Nat.le_trans hb1.size hb8.size) (.cells #[.bool true, .slice A2 n2 c2] 118))
  have hbw := (below_alloc (Below.refl w2.heap.size w2) (Nat.le_refl _) (.cells #[.bool true, .slice A2 n2 c2] 118))
  have HD2 := Lib.hid (hd2.call hbw)
  have HD1 := Lib.hid (HA.out.call KB.out)
  clear hc2 kv2 hd2 hb8 h1 hb1 hbw qO
  rw [← hv] at bX
  have e0 := K1.out.c0
  have e1 := K1.out.c1
  have e3 := K2.out.c1
  by_cases hX : X < 0
  · obtain rfl : s = true := by rw [← hs]; exact decide_eq_true hX
    have qL0 := Lib.hid (less_any A2 A n2 n c2 c f2 f)
    have qL := Lib.hid (fun w' h1 h2 => qL0.out w' h1 h2 Hf2 Hf (by omega) (by omega))
    clear qL0
    by_cases hg : pv f n ≤ 9223372036854775808
    · have hc : decide (pv f2 n2 < pv f n) = false := decide_eq_false (by omega)
      rw [hc] at qL
      have HF := Lib.hid (fits_in (X := X) (by omega))
      clear hs hc
      go_wp2_with (go_at_call 134; with_reducible refine (qL.out _ HD2 HD1).mono ?_; rintro e w9 ⟨rfl, rfl⟩)
      clear qL e3 hq
      generalize w2.alloc (.cells #[.bool true, .slice A2 n2 c2] 118) = wr at *
      go_loopw [5, 6] (fun s5 s6 wr' => ∃ k T : Nat, s5 = .int .i64 (-(T : Int)) ∧ s6 = .int .i64 ((k : Int) - 1) ∧ k ≤ n ∧ Hid (FitInv f n k T) ∧ wr' = wr) (fun _ s6 _ => (intOf s6 + 1).toNat)
      case atStart => exact ⟨n, 0, rfl, rfl, Nat.le_refl _, ⟨by rw [Nat.zero_mul]; rfl⟩, rfl⟩
      case round =>
        obtain ⟨k, T, rfl, rfl, hk, HI, rfl⟩ := hrel
        have hT := HI.out.le
        by_cases hk0 : k = 0
        · subst hk0
          have hTv : T = pv f n := by have := HI.out.all; have h0 : pv f 0 = 0 := rfl; omega
          have hTX : -(T : Int) = X := by omega
          have HTX := Lib.hid hTX
          clear hTv hTX
          go_wp2_with fail
          go_ret2
          refine ⟨?_, KB.out⟩
          rw [HF.out, ← HTX.out]
          rfl
        · obtain ⟨j, rfl⟩ : ∃ j, k = j + 1 := ⟨k - 1, by omega⟩
          have ej : ((j + 1 : Nat) : Int) - 1 = (j : Int) := by omega
          rw [ej]
          obtain ⟨b, ob, rfl, hblt, hbc⟩ := HD1.out j (by omega)
          have a1 := Hf.out.lt j
          have hst := Lib.hid HI.out.step
          have hT2 := HI.out.step.le
          obtain ⟨a, ha⟩ : ∃ y, f j = y := ⟨_, rfl⟩
          rw [ha] at a1 hst hbc hT2
          obtain ⟨T2, hT2e⟩ : ∃ y, T * 10000 + a = y := ⟨_, rfl⟩
          rw [hT2e] at hst hT2
          have t1 : -(T : Int) * 10000 = -((T * 10000 : Nat) : Int) := by omega
          have t4 : wrap64 (-(T : Int) * 10000) = -((T * 10000 : Nat) : Int) := by rw [t1]; unfold wrap64; omega
          have t2 : wrap64 (wrap64 (-(T : Int) * 10000) - (a : Int)) = -(T2 : Int) := by rw [t4]; unfold wrap64; omega
          have t5 : wrap64 (-(T : Int) * 10000 - (a : Int)) = -(T2 : Int) := by unfold wrap64; omega
          have t6 : -(T : Int) * 10000 - (a : Int) = -(T2 : Int) := by omega
          have hjn : (j : Int) < n := by omega
          clear ha hT2e ej hk0 t1
          go_wp2_with fail
          go_roundw
          case rel => exact ⟨j, T2, rfl, rfl, by omega, hst.out, trivial⟩
          case measure => simp [intOf]
    · have hc : decide (pv f2 n2 < pv f n) = true := decide_eq_true (by omega)
      rw [hc] at qL
      have HF := Lib.hid (fits_out (X := X) (by omega))
      clear hs hc
      go_wp2_with (go_at_call 134; with_reducible refine (qL.out _ HD2 HD1).mono ?_; rintro e w9 ⟨rfl, rfl⟩)
      go_ret2
      exact ⟨by rw [HF.out]; rfl, KB.out⟩
  · obtain rfl : s = false := by rw [← hs]; exact decide_eq_false hX
    have qL0 := Lib.hid (less_any A A2 n n2 c c2 f f2)
    have qL := Lib.hid (fun w' h1 h2 => qL0.out w' h1 h2 Hf Hf2 (by omega) (by omega))
    clear qL0
    by_cases hg : pv f n < 9223372036854775808
    · have hc : decide (pv f n < pv f2 n2) = true := decide_eq_true (by omega)
      rw [hc] at qL
      have HF := Lib.hid (fits_in (X := X) (by omega))
      clear hs hc
      go_wp2_with (go_at_call 134; with_reducible refine (qL.out _ HD1 HD2).mono ?_; rintro e w9 ⟨rfl, rfl⟩)
      clear qL e3 hq
      generalize w2.alloc (.cells #[.bool true, .slice A2 n2 c2] 118) = wr at *
      go_loopw [5, 6] (fun s5 s6 wr' => ∃ k T : Nat, s5 = .int .i64 (-(T : Int)) ∧ s6 = .int .i64 ((k : Int) - 1) ∧ k ≤ n ∧ Hid (FitInv f n k T) ∧ wr' = wr) (fun _ s6 _ => (intOf s6 + 1).toNat)
      case atStart => exact ⟨n, 0, rfl, rfl, Nat.le_refl _, ⟨by rw [Nat.zero_mul]; rfl⟩, rfl⟩
      case round =>
        obtain ⟨k, T, rfl, rfl, hk, HI, rfl⟩ := hrel
        have hT := HI.out.le
        by_cases hk0 : k = 0
        · subst hk0
          have hTv : T = pv f n := by have := HI.out.all; have h0 : pv f 0 = 0 := rfl; omega
          have hTX : (T : Int) = X := by omega
          have HTX := Lib.hid hTX
          clear hTv hTX
          have hTb : T < 9223372036854775808 := by omega
          go_wp2_with fail
          go_ret2
          refine ⟨?_, KB.out⟩
          rw [HF.out, ← HTX.out]
          rfl
        · obtain ⟨j, rfl⟩ : ∃ j, k = j + 1 := ⟨k - 1, by omega⟩
          have ej : ((j + 1 : Nat) : Int) - 1 = (j : Int) := by omega
          rw [ej]
          obtain ⟨b, ob, rfl, hblt, hbc⟩ := HD1.out j (by omega)
          have a1 := Hf.out.lt j
          have hst := Lib.hid HI.out.step
          have hT2 := HI.out.step.le
          obtain ⟨a, ha⟩ : ∃ y, f j = y := ⟨_, rfl⟩
          rw [ha] at a1 hst hbc hT2
          obtain ⟨T2, hT2e⟩ : ∃ y, T * 10000 + a = y := ⟨_, rfl⟩
          rw [hT2e] at hst hT2
          have t1 : -(T : Int) * 10000 = -((T * 10000 : Nat) : Int) := by omega
          have t4 : wrap64 (-(T : Int) * 10000) = -((T * 10000 : Nat) : Int) := by rw [t1]; unfold wrap64; omega
          have t2 : wrap64 (wrap64 (-(T : Int) * 10000) - (a : Int)) = -(T2 : Int) := by rw [t4]; unfold wrap64; omega
          have t5 : wrap64 (-(T : Int) * 10000 - (a : Int)) = -(T2 : Int) := by unfold wrap64; omega
          have t6 : -(T : Int) * 10000 - (a : Int) = -(T2 : Int) := by omega
          have hjn : (j : Int) < n := by omega
          clear ha hT2e ej hk0 t1
          go_wp2_with fail
          go_roundw
          case rel => exact ⟨j, T2, rfl, rfl, by omega, hst.out, trivial⟩
          case measure => simp [intOf]
    · have hc : decide (pv f n < pv f2 n2) = false := decide_eq_false (by omega)
      rw [hc] at qL
      have HF := Lib.hid (fits_out (X := X) (by omega))
      clear hs hc
      go_wp2_with (go_at_call 134; with_reducible refine (qL.out _ HD1 HD2).mono ?_; rintro e w9 ⟨rfl, rfl⟩)
      go_ret2
      exact ⟨by rw [HF.out]; rfl, KB.out⟩
end Go.Proofs.Ytfkfpppiikgjbaa
