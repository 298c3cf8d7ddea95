/- Part 10 of what the claim rests on. -/
import Derived.Test.YtajogedbacpohaaGreatDoorC00
import Derived.Test.YtajogedbacpohaaGreatDoorC08
set_option linter.unusedVariables false
set_option linter.unusedSimpArgs false
set_option maxRecDepth 1000000
set_option maxHeartbeats 32000000
namespace Go.Proofs.YtajogedbacpohaaGreatDoor
section
open Go Go.RowKit Mon
def pick4 (a b c d : Int) : Nat → Int
 | 0 => a
 | 1 => b
 | 2 => c
 | _ => d
def upW (a b c x y z : Int) : Nat → Array Value
 | 0 => #[.int .u64 x, .int .u64 y, .int .u64 z]
 | 1 => #[.int .u64 a, .int .u64 y, .int .u64 z]
 | 2 => #[.int .u64 a, .int .u64 b, .int .u64 z]
 | _ => #[.int .u64 a, .int .u64 b, .int .u64 c]
theorem zz9f {V r a b c x y z m0 K1 m1 K2 m2 n0 d1 n1 d2 n2 q0 q1 q2 r1 r2 : Int} (hV : Ok V) (h1 : V < 3138550867693340381917894711603833208051177722232017256448) (h2 : 0 ≤ r) (h3 : r ≤ 1000)
  (hA : w0 V = a ∧ w1 V = b ∧ w2 V = c) (hX : a * r = x ∧ b * r = y ∧ c * r = z)
  (hM : (x % 18446744073709551616 + 0) % 18446744073709551616 = m0 ∧ x / 18446744073709551616 + (x % 18446744073709551616 + 0) / 18446744073709551616 = K1 ∧
   (y % 18446744073709551616 + K1) % 18446744073709551616 = m1 ∧ y / 18446744073709551616 + (y % 18446744073709551616 + K1) / 18446744073709551616 = K2 ∧
   (z % 18446744073709551616 + K2) % 18446744073709551616 = m2)
  (hN : (m0 + 99) % 18446744073709551616 = n0 ∧ (m0 + 99) / 18446744073709551616 = d1 ∧ (m1 + d1) % 18446744073709551616 = n1 ∧ (m1 + d1) / 18446744073709551616 = d2 ∧ (m2 + d2) % 18446744073709551616 = n2)
  (hQ : (0 * 18446744073709551616 + n2) / 100 = q2 ∧ (0 * 18446744073709551616 + n2) % 100 = r2 ∧ (r2 * 18446744073709551616 + n1) / 100 = q1 ∧ (r2 * 18446744073709551616 + n1) % 100 = r1 ∧ (r1 * 18446744073709551616 + n0) / 100 = q0) :
  share V r = if q1 = 0 ∧ q2 = 0 ∧ q0 ≤ 9223372036854775807 then (q0, true) else (0, false) := by
 have hv := w_back hV;rw [hA.1, hA.2.1, hA.2.2] at hv;have e1 : V * r = x + y * M + z * (M * M) := by
  rw [← hv, ← hX.1, ← hX.2.1, ← hX.2.2, Int.add_mul, Int.add_mul, Int.mul_right_comm, Int.mul_right_comm c]
 have e2 : (V * r) % M3 = m0 + m1 * M + m2 * (M * M) := by
  rw [e1]; unfold M M3; omega
 have e3 : ((V * r) % M3 + 99) % M3 = n0 + n1 * M + n2 * (M * M) := by
  rw [e2]; unfold M M3; omega
 have e4 : ((V * r) % M3 + 99) % M3 / 100 = q0 + q1 * M + q2 * (M * M) := by
  rw [e3, div_words (by unfold M; omega) (by unfold M; omega) (by unfold M; omega)]
  unfold M; omega
 unfold share;rw [if_pos ⟨h1, h2, h3⟩, e4];have g0 : 0 ≤ q0 := by omega
 have g1 : 0 ≤ q1 := by omega
 have g2 : 0 ≤ q2 := by omega
 by_cases h : q1 = 0 ∧ q2 = 0 ∧ q0 ≤ 9223372036854775807
 ·rw [if_pos h, if_pos (by unfold M; omega), h.1, h.2.1]; simp
 ·rw [if_neg h, if_neg (by unfold M; omega)]
theorem zz95 (g : Nat) (V : Int) (hV : Ok V) (w : World) (hS : Hid (SumAt w g V)) :
  Calls Tryz.prog 183 #[.pointer (some ⟨g, 0, none⟩)] w fun r w' => r = .returned (.bool (decide (¬ V < 3138550867693340381917894711603833208051177722232017256448))) ∧ w' = w := by
 have c2 : w.cell? ⟨g, 2, none⟩ = some (.int .u64 (w2 V)) := zz00 hS.out 2 _ rfl;have e : (w2 V / 9223372036854775808 == 1) = decide (¬ V < 3138550867693340381917894711603833208051177722232017256448) := by
  have h : (w2 V / 9223372036854775808 = 1) ↔ (¬ V < 3138550867693340381917894711603833208051177722232017256448) := by
   unfold w2 M; unfold Ok M3 at hV; omega
  by_cases h1 : w2 V / 9223372036854775808 = 1
  ·rw [decide_eq_true (h.1 h1)]; simpa using h1
  ·rw [decide_eq_false (fun h2 => h1 (h.2 h2))]; simpa using h1
 go_in;go_wp2;go_ret;exact ⟨by rw [← e]; rfl, rfl⟩
theorem zt72 {p : Prop} (h : p := by
 go_in;go_wp2_with (go_at_call 183; with_reducible refine q.out.mono ?_; rintro e w' ⟨rfl, rfl⟩);go_ret2;exact ⟨rfl, rfl⟩) : p := h
theorem Share_off (g : Nat) (V r : Int) (hV : Ok V) (w : World) (hS : Hid (SumAt w g V))
  (h : ¬ (V < 3138550867693340381917894711603833208051177722232017256448 ∧ 0 ≤ r ∧ r ≤ 1000)) :
  Calls Tryz.prog 151 #[.pointer (some ⟨g, 0, none⟩), .int .i64 r] w fun e w' => e = .returned (.tuple #[.int .i64 0, .bool false]) ∧ w' = w := by
 have q := zH (zz95 g V hV w hS);have H := zH h;by_cases h1 : V < 3138550867693340381917894711603833208051177722232017256448
 ·have e1 : decide (¬ V < 3138550867693340381917894711603833208051177722232017256448) = false := decide_eq_false (fun h2 => h2 h1)
  rw [e1] at q;by_cases h2 : r < 0
  ·have e2 : decide (r < 0) = true := decide_eq_true h2
   clear h e1 h1;exact zt72
  ·have h3 : 1000 < r := by omega
   have e2 : decide (r < 0) = false := decide_eq_false h2;have e3 : decide (1000 < r) = true := decide_eq_true h3;clear h e1 h1 h2;exact zt72
 ·have e1 : decide (¬ V < 3138550867693340381917894711603833208051177722232017256448) = true := decide_eq_true h1
  rw [e1] at q;clear h e1 h1;exact zt72
theorem Share_on (g : Nat) (V r : Int) (hV : Ok V) (w : World) (hS : Hid (SumAt w g V))
  (h1 : V < 3138550867693340381917894711603833208051177722232017256448) (h2 : 0 ≤ r) (h3 : r ≤ 1000) :
  Calls Tryz.prog 151 #[.pointer (some ⟨g, 0, none⟩), .int .i64 r] w fun e w' => e = .returned (.tuple #[.int .i64 (share V r).1, .bool (share V r).2]) ∧ Below w.heap.size w w' := by
 have q := zH (zz95 g V hV w hS);rw [decide_eq_false (fun h => h h1)] at q
 have hglt : g < w.heap.size := zL hS.out;obtain ⟨k0, k1, k2⟩ := w_ok hV;obtain ⟨a, hA⟩ : ∃ a, w0 V = a := ⟨_, rfl⟩;obtain ⟨b, hB⟩ : ∃ b, w1 V = b := ⟨_, rfl⟩;obtain ⟨c, hC⟩ : ∃ c, w2 V = c := ⟨_, rfl⟩;rw [hA] at k0; rw [hB] at k1; rw [hC] at k2;have hS2 : ZB w g #[.int .u64 a, .int .u64 b, .int .u64 c] 196 := by rw [← hA, ← hB, ← hC]; exact hS.out
 have mulb : ∀ x : Int, 0 ≤ x ∧ x < M → 0 ≤ x * r ∧ x * r ≤ 18446744073709551615000 := fun x hx => ⟨Int.mul_nonneg hx.1 h2, by have := Int.mul_le_mul (show x ≤ 18446744073709551615 by unfold M at hx; omega) h3 h2 zx; omega⟩
 have b0 := mulb a k0;have b1 := mulb b k1;have b2 := mulb c k2;have qa := zH (fun w => mul64 a r k0 ⟨h2, by unfold M; omega⟩ w)
 have qb := zH (fun w => mul64 b r k1 ⟨h2, by unfold M; omega⟩ w)
 have qc := zH (fun w => mul64 c r k2 ⟨h2, by unfold M; omega⟩ w)
 obtain ⟨x, hx⟩ : ∃ x, a * r = x := ⟨_, rfl⟩;obtain ⟨y, hy⟩ : ∃ x, b * r = x := ⟨_, rfl⟩;obtain ⟨z, hz⟩ : ∃ x, c * r = x := ⟨_, rfl⟩;rw [hx] at b0 qa; rw [hy] at b1 qb; rw [hz] at b2 qc;obtain ⟨m0, hm0⟩ : ∃ t, (x % 18446744073709551616 + 0) % 18446744073709551616 = t := ⟨_, rfl⟩;obtain ⟨K1, hK1⟩ : ∃ t, x / 18446744073709551616 + (x % 18446744073709551616 + 0) / 18446744073709551616 = t := ⟨_, rfl⟩;obtain ⟨m1, hm1⟩ : ∃ t, (y % 18446744073709551616 + K1) % 18446744073709551616 = t := ⟨_, rfl⟩;obtain ⟨K2, hK2⟩ : ∃ t, y / 18446744073709551616 + (y % 18446744073709551616 + K1) / 18446744073709551616 = t := ⟨_, rfl⟩;obtain ⟨m2, hm2⟩ : ∃ t, (z % 18446744073709551616 + K2) % 18446744073709551616 = t := ⟨_, rfl⟩;obtain ⟨K3, hK3⟩ : ∃ t, z / 18446744073709551616 + (z % 18446744073709551616 + K2) / 18446744073709551616 = t := ⟨_, rfl⟩;have HM := zH (And.intro hm0 (And.intro hK1 (And.intro hm1 (And.intro hK2 (And.intro hm2 hK3)))));have HB := zH (And.intro b0 (And.intro b1 b2));have HX := zH (And.intro hx (And.intro hy hz));have HA := zH (And.intro hA (And.intro hB hC));have HK := zH (And.intro k0 (And.intro k1 k2));clear hm0 hK1 hm1 hK2 hm2 hK3 b0 b1 b2 hx hy hz hA hB hC k0 k1 k2 mulb;have HV := zH (And.intro hV h1);have e2 : decide (r < 0) = false := decide_eq_false zw;have e3 : decide (1000 < r) = false := decide_eq_false zw;clear hV h1 hS;go_in;go_wp2_with (go_at_call 183; with_reducible refine q.out.mono ?_; rintro e w' ⟨rfl, rfl⟩);go_loopw [7, 8, 9, 10, 11, 28] (fun s7 s8 s9 s10 s11 s28 wr => ∃ k : Nat, k ≤ 3 ∧ s7 = .int .u64 (pick4 0 K1 K2 K3 k) ∧ s28 = .int .i64 k ∧
  ZB wr g #[.int .u64 a, .int .u64 b, .int .u64 c] 196 ∧ ZB wr w'.heap.size (upW m0 m1 m2 0 0 0 k) 194 ∧ Hid (Below w'.heap.size w' wr)) (fun _ _ _ _ _ s28 _ => 3 - (intOf s28).toNat)
 case atStart => exact ⟨0, by decide, rfl, rfl, zz05 hS2.out _, zz02 _ _, zBa⟩
 case round =>
  obtain ⟨k, hk, rfl, rfl, H0, H1, HW⟩ := hrel;have hlt2 := zL H0.out;have hlt3 := zL H1.out;have hne : ¬ g = w'.heap.size := by omega
  by_cases hk3 : k = 3
  ·rw [hk3] at H1
   have hk4 : ¬ ((k : Int) < 3) := by omega
   clear hS2 hk3;have c0 : wr.cell? ⟨w'.heap.size, 0, none⟩ = some (.int .u64 m0) := zz00 H1.out 0 _ rfl;have c1 : wr.cell? ⟨w'.heap.size, 1, none⟩ = some (.int .u64 m1) := zz00 H1.out 1 _ rfl;have c2 : wr.cell? ⟨w'.heap.size, 2, none⟩ = some (.int .u64 m2) := zz00 H1.out 2 _ rfl;have f0 := zz04 H1.out 0;have f1 := zz04 H1.out 1;have f2 := zz04 H1.out 2;have hm := HM.out;obtain ⟨n0, hn0⟩ : ∃ t, (m0 + 99) % 18446744073709551616 = t := ⟨_, rfl⟩;obtain ⟨d1, hd1⟩ : ∃ t, (m0 + 99) / 18446744073709551616 = t := ⟨_, rfl⟩;obtain ⟨n1, hn1⟩ : ∃ t, (m1 + d1) % 18446744073709551616 = t := ⟨_, rfl⟩;obtain ⟨d2, hd2⟩ : ∃ t, (m1 + d1) / 18446744073709551616 = t := ⟨_, rfl⟩;obtain ⟨n2, hn2⟩ : ∃ t, IntKind.u64.wrap (m2 + d2) = t := ⟨_, rfl⟩;have qA := fun w => zz7a m0 99 zw zx w
   have qB := fun w => add64_0'' m1 d1 w zw zw zw
   rw [hn0, hd1] at qA;rw [hn1, hd2] at qB;have hn2' : (m2 + d2) % 18446744073709551616 = n2 := by rw [← hn2, IntKind.wrap_u64]
   have HN := zH (And.intro hn0 (And.intro hd1 (And.intro hn1 (And.intro hd2 hn2'))));clear hn0 hd1 hn1 hd2 hn2' hm;obtain ⟨q2, hq2⟩ : ∃ t, (0 * 18446744073709551616 + n2) / 100 = t := ⟨_, rfl⟩;obtain ⟨r2, hr2⟩ : ∃ t, (0 * 18446744073709551616 + n2) % 100 = t := ⟨_, rfl⟩;obtain ⟨q1, hq1⟩ : ∃ t, (r2 * 18446744073709551616 + n1) / 100 = t := ⟨_, rfl⟩;obtain ⟨r1, hr1⟩ : ∃ t, (r2 * 18446744073709551616 + n1) % 100 = t := ⟨_, rfl⟩;obtain ⟨q0, hq0⟩ : ∃ t, (r1 * 18446744073709551616 + n0) / 100 = t := ⟨_, rfl⟩;obtain ⟨r0, hr0⟩ : ∃ t, (r1 * 18446744073709551616 + n0) % 100 = t := ⟨_, rfl⟩;have qc2 := zH (fun w => zz61 0 n2 zw (by have := HN.out; unfold M; omega) w)
   have qc1 := zH (fun w => zz61 r2 n1 zw (by have := HN.out; unfold M; omega) w)
   have qc0 := zH (fun w => zz61 r1 n0 zw (by have := HN.out; unfold M; omega) w)
   rw [hq2, hr2] at qc2;rw [hq1, hr1] at qc1;rw [hq0, hr0] at qc0;have HSH := zH (zz9f HV.out.1 HV.out.2 h2 h3 HA.out HX.out ⟨HM.out.1, HM.out.2.1, HM.out.2.2.1, HM.out.2.2.2.1, HM.out.2.2.2.2.1⟩ HN.out ⟨hq2, hr2, hq1, hr1, hq0⟩);have g0 : 0 ≤ q0 := by have := HN.out; omega
   have g1 : 0 ≤ q1 := by have := HN.out; omega
   have g2 : 0 ≤ q2 := by have := HN.out; omega
   have g3 : q0 < 18446744073709551616 := by have := HN.out; omega
   clear hq2 hr2 hq1 hr1 hq0 hr0;go_wp2_with fail;have H2 := zH (zz0b (zz0b (zz0b H1.out 0 (.int .u64 n0)) 1 (.int .u64 n1)) 2 (.int .u64 n2));have H3 : Hid (Below w'.heap.size w' (((wr.setCell ⟨w'.heap.size, 0, none⟩ (.int .u64 n0)).setCell ⟨w'.heap.size, 1, none⟩ (.int .u64 n1)).setCell ⟨w'.heap.size, 2, none⟩ (.int .u64 n2))) := ((HW.out.setCell (Nat.le_refl _) _).setCell (Nat.le_refl _) _).setCell (Nat.le_refl _) _;generalize ((wr.setCell ⟨w'.heap.size, 0, none⟩ (.int .u64 n0)).setCell ⟨w'.heap.size, 1, none⟩ (.int .u64 n1)).setCell ⟨w'.heap.size, 2, none⟩ (.int .u64 n2) = wb at *;clear c0 c1 c2 f0 f1 f2 H0 H1 HW hlt2 hlt3 qA qB hn2 qa qb qc e2 e3 q hglt hne hk wr;go_loopw [12, 13] (fun s12 s13 wr => ∃ i : Nat, i ≤ 3 ∧ s12 = .int .u64 (pick4 r0 r1 r2 0 i) ∧ s13 = .int .i64 ((i : Int) - 1) ∧
    ZB wr w'.heap.size (upW n0 n1 n2 q0 q1 q2 i) 194 ∧ Hid (Below w'.heap.size w' wr)) (fun _ s13 _ => (intOf s13 + 1).toNat)
   case atStart => exact ⟨3, by decide, rfl, rfl, H2.out, H3.out⟩
   case round =>
    obtain ⟨i, hi, rfl, rfl, H0, HW⟩ := hrel;clear H2 H3;have hlt3 := zL H0.out;by_cases hi0 : i = 0
    ·subst hi0
     have c0 : wr.cell? ⟨w'.heap.size, 0, none⟩ = some (.int .u64 q0) := zz00 H0.out 0 _ rfl;have c1 : wr.cell? ⟨w'.heap.size, 1, none⟩ = some (.int .u64 q1) := zz00 H0.out 1 _ rfl;have c2 : wr.cell? ⟨w'.heap.size, 2, none⟩ = some (.int .u64 q2) := zz00 H0.out 2 _ rfl;by_cases t1 : q1 = 0
     ·by_cases t2 : q2 = 0
      ·by_cases t3 : q0 ≤ 9223372036854775807
       ·have hs := HSH.out
        rw [if_pos ⟨t1, t2, t3⟩] at hs;have HS3 := zH hs;clear hs;subst t1 t2;have u3 : decide (9223372036854775807 < q0) = false := decide_eq_false zw;go_wp2_with fail;go_ret2;exact ⟨by rw [HS3.out]; rfl, HW.out⟩
       ·have hs := HSH.out
        rw [if_neg (fun h => t3 h.2.2)] at hs
        have HS3 := zH hs;clear hs;subst t1 t2;have u3 : decide (9223372036854775807 < q0) = true := decide_eq_true zw;go_wp2_with fail;go_ret2;exact ⟨by rw [HS3.out]; rfl, HW.out⟩
      ·have hs := HSH.out
       rw [if_neg (fun h => t2 h.2.1)] at hs
       have HS3 := zH hs;clear hs;subst t1;have u3 : (q2 != 0) = true := by simpa using t2
       go_wp2_with fail;go_ret2;exact ⟨by rw [HS3.out]; rfl, HW.out⟩
     ·have hs := HSH.out
      rw [if_neg (fun h => t1 h.1)] at hs
      have HS3 := zH hs;clear hs;have u3 : (q1 != 0) = true := by simpa using t1
      go_wp2_with fail;go_ret2;exact ⟨by rw [HS3.out]; rfl, HW.out⟩
    ·obtain ⟨k, rfl⟩ : ∃ k, i = k + 1 := ⟨i - 1, by omega⟩
     have hk' : k < 3 := by omega
     have key : ∃ X R Q R' : Int, (wr.cell? ⟨w'.heap.size, k, none⟩ = some (.int .u64 X)) ∧ pick4 r0 r1 r2 0 (k + 1) = R ∧
       (∀ w, Calls Tryz.prog 185 #[.int .u64 R, .int .u64 X, .int .u64 100] w fun e w' => e = .returned (.tuple #[.int .u64 Q, .int .u64 R']) ∧ ∃ n, w' = w.drewN n) ∧
       R' = pick4 r0 r1 r2 0 k ∧ (upW n0 n1 n2 q0 q1 q2 (k + 1)).setIfInBounds k (.int .u64 Q) = upW n0 n1 n2 q0 q1 q2 k := by
      rcases three k zw with rfl | rfl | rfl | rfl
      ·exact ⟨n0, r1, q0, r0, zz00 H0.out 0 _ rfl, rfl, qc0.out, rfl, rfl⟩
      ·exact ⟨n1, r2, q1, r1, zz00 H0.out 1 _ rfl, rfl, qc1.out, rfl, rfl⟩
      ·exact ⟨n2, 0, q2, r2, zz00 H0.out 2 _ rfl, rfl, qc2.out, rfl, rfl⟩
      ·omega
     obtain ⟨X, R, Q, R', cX, hR, QD, hR2, hU⟩ := key;have QD := zH QD; have HR2 := zH hR2; have HU := zH hU;have e1 : ((k + 1 : Nat) : Int) - 1 = (k : Int) := by omega
     have f0 := zz04 H0.out k;rw [hR, e1];clear hR hR2 hU e1 hi hi0;go_wp2_with (go_at_call 185; with_reducible refine (QD.out _).mono ?_; rintro e w9 ⟨rfl, nd, rfl⟩);go_roundw
     case rel => exact ⟨k, by omega, by rw [HR2.out], rfl, by rw [← HU.out]; exact zz0b (w := wr.drewN nd) H0.out _ _, (zz0c HW.out nd).setCell (Nat.le_refl _) _⟩
     case measure => simp [intOf]
  ·have hk' : k < 3 := by omega
   have hm := HM.out;have hb := HB.out;have key : ∃ X C hi lo s cy C' : Int, (wr.cell? ⟨g, k, none⟩ = some (.int .u64 X)) ∧ (wr.cell? ⟨w'.heap.size, k, none⟩ = some (.int .u64 0)) ∧ pick4 0 K1 K2 K3 k = C ∧
     (∀ w, Calls Tryz.prog 176 #[.int .u64 X, .int .u64 r] w fun e w' => e = .returned (.tuple #[.int .u64 hi, .int .u64 lo]) ∧ w' = w) ∧
     (∀ w : World, (callFunc 184 #[.int .u64 lo, .int .u64 C, .int .u64 0]).run Tryz.prog w = .ok (.value (.tuple #[.int .u64 s, .int .u64 cy])) w) ∧
     IntKind.u64.wrap (hi + cy) = C' ∧ C' = pick4 0 K1 K2 K3 (k + 1) ∧ (upW m0 m1 m2 0 0 0 k).setIfInBounds k (.int .u64 s) = upW m0 m1 m2 0 0 0 (k + 1) := by
    rcases three k hk with rfl | rfl | rfl | rfl
    ·exact ⟨a, 0, _, _, m0, _, K1, zz00 H0.out 0 _ rfl, zz00 H1.out 0 _ rfl, rfl, qa.out, fun w => by rw [zz7a _ 0 zw zx w, hm.1], by rw [IntKind.wrap_u64]; omega, rfl, rfl⟩
    ·exact ⟨b, K1, _, _, m1, _, K2, zz00 H0.out 1 _ rfl, zz00 H1.out 1 _ rfl, rfl, qb.out, fun w => by rw [zz7a _ K1 zw zw w, hm.2.2.1], by rw [IntKind.wrap_u64]; omega, rfl, rfl⟩
    ·exact ⟨c, K2, _, _, m2, _, K3, zz00 H0.out 2 _ rfl, zz00 H1.out 2 _ rfl, rfl, qc.out, fun w => by rw [zz7a _ K2 zw zw w, hm.2.2.2.2.1], by rw [IntKind.wrap_u64]; omega, rfl, rfl⟩
    ·omega
   clear hm hb;obtain ⟨X, C, hi, lo, s, cy, C', cX, cY, hC, QM, QA, hC', hC2, hU⟩ := key;rw [hC];have QM := zH QM;have HC2 := zH hC2;have HU := zH hU;have f0 := zz04 H1.out k;clear hC hC2 hU hS2;go_wp2_with (go_at_call 176; with_reducible refine (QM.out _).mono ?_; rintro e w9 ⟨rfl, rfl⟩);go_roundw
   case rel => exact ⟨k + 1, by omega, by rw [HC2.out], by go_num, zz09 H0.out _ _ hne, by rw [← HU.out]; exact zz0b H1.out _ _, HW.out.setCell (Nat.le_refl _) _⟩
   case measure => simp [intOf]; omega
theorem ok_zero : Ok 0 := by unfold Ok M3; omega
theorem sumA_zero : sumA 0 = #[.int .u64 0, .int .u64 0, .int .u64 0] := by kernel_rfl
theorem zz5a (w : World) : SumAt (w.alloc (.cells #[.int .u64 0, .int .u64 0, .int .u64 0] 196)) w.heap.size 0 := by
 unfold SumAt; rw [sumA_zero]; exact zz02 _ _
theorem SumAt.oth {w w' : World} {g h : Nat} {V : Int} (hs : SumAt w g V) (hg : w.grownBy w' (some h)) (hne : g ≠ h) : SumAt w' g V :=
 (hg.block g (zL hs) (fun e => hne (Option.some.inj e))).trans hs
theorem SumAt.call {w w' : World} {g : Nat} {V : Int} (hs : SumAt w g V) (hg : Below w.heap.size w w') : SumAt w' g V := zz06 hs hg
theorem zz0e {B g : Nat} {a w w' : World} (h : Below B a w) (hg : w.grownBy w' (some g)) (hB : B ≤ g) (hsz : B ≤ w.heap.size) : Below B a w' :=
 ⟨hg.os.trans h.os, hg.tape.trans h.tape, hg.output.trans h.output, Nat.le_trans h.size hg.size, fun k hk => (hg.block k (Nat.lt_of_lt_of_le hk hsz) (fun e => by have := Option.some.inj e; omega)).trans (h.block k hk)⟩
theorem Share_any (g : Nat) (V r : Int) (hV : Ok V) (w : World) (hS : Hid (SumAt w g V)) :
  Calls Tryz.prog 151 #[.pointer (some ⟨g, 0, none⟩), .int .i64 r] w fun e w' => e = .returned (.tuple #[.int .i64 (share V r).1, .bool (share V r).2]) ∧ Below w.heap.size w w' := by
 by_cases h : V < 3138550867693340381917894711603833208051177722232017256448 ∧ 0 ≤ r ∧ r ≤ 1000
 ·exact Share_on g V r hV w hS h.1 h.2.1 h.2.2
 ·refine (Share_off g V r hV w hS h).mono ?_
  rintro e w' ⟨rfl, rfl⟩;have e1 : share V r = (0, false) := by unfold share; rw [if_neg h]
  rw [e1];exact ⟨rfl, Below.refl _ _⟩
theorem Mul_any (a b : Int) (ha : I64 a) (hb : I64 b) (w : World) :
  Calls Tryz.prog 79 #[.int .i64 a, .int .i64 b] w fun r w' =>
   r = .returned (.tuple #[.int .i64 (total ((a * b) % M3)).1, .bool (total ((a * b) % M3)).2]) ∧ Below w.heap.size w w' := by
 have q1 := zH (zz0s w.heap.size 0 a b ok_zero ha hb (w.alloc (.cells #[.int .u64 0, .int .u64 0, .int .u64 0] 196)) (zz5a w));rw [Int.zero_add] at q1;have q2 := zH (fun w' h => zz3d w.heap.size ((a * b) % M3) (zz24 _) w' h)
 go_in;go_wp2_with fail;(with_reducible refine q1.out.mono ?_);rintro e w1 ⟨rfl, h1, h2⟩;have H1 := zH h1;have H2 := zH h2;clear h1 h2;go_wp2_with (go_at_call 146; with_reducible refine (q2.out _ H1).mono ?_; rintro e w9 ⟨rfl, rfl⟩);go_ret2;exact ⟨rfl, zz0e zBa H2.out (Nat.le_refl _) (by rw [World.size_alloc]; omega)⟩
end
section
open Go Go.RowKit Bg Mon
theorem zz25 {x : Int} (h : -1569275433846670190958947355801916604025588861116008628224 ≤ x ∧ x ≤ 1569275433846670190958947355801916604025588861116008628224) : total (x % M3) = fitsP x := by
 have e : sg (x % M3) = x := by unfold sg M3; split <;> omega
 unfold total fitsP;rw [e]
end
end Go.Proofs.YtajogedbacpohaaGreatDoor
