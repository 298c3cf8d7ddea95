/- The reader of the reference: it answers what the program's reader answers. -/
import Derived.Test.YtaigngdlioplaaaDoorNumsE
import Derived.Lib.IndexBytes
namespace Go.Proofs.YtaigngdlioplaaaDoor
open Go.RowKit

theorem mul_digit (k d : Nat) (hd : d < 128) (hk : k ≤ 9) (h9 : k = 9 → d ≤ 1) : d * 128 ^ k < 18446744073709551616 := by
  by_cases h : k = 9
  · subst h
    have h2 := Nat.mul_le_mul_right (128 ^ 9) (h9 rfl)
    omega
  · have h1 : 128 ^ k ≤ 128 ^ 8 := Nat.pow_le_pow_right (by decide) (by omega)
    have h2 := Nat.mul_le_mul (show d ≤ 127 by omega) h1
    omega
theorem add_digit (n k d : Nat) (hn : n < 128 ^ k) (hd : d < 128) (hk : k ≤ 9) (h9 : k = 9 → d ≤ 1) : n + d * 128 ^ k < 18446744073709551616 := by
  by_cases h : k = 9
  · subst h
    have h2 := Nat.mul_le_mul_right (128 ^ 9) (h9 rfl)
    omega
  · have h1 : 128 ^ k ≤ 128 ^ 8 := Nat.pow_le_pow_right (by decide) (by omega)
    have h2 := Nat.mul_le_mul (show d ≤ 127 by omega) h1
    omega

/-- A number beside no fault. -/
def okNat (e : Int) (n : Nat) : Int := if e = 0 then (n : Int) else 0
theorem okNat_zero (n : Nat) : okNat 0 n = (n : Int) := rfl
theorem okNat_three (n : Nat) : okNat 3 n = 0 := rfl
theorem ret3i {k k' k'' : IntKind} {a a' b b' c c' : Int} (h : a = a') (h' : b = b') (h'' : c = c') : Ending.returned (.tuple #[.int k a, .int k' b, .int k'' c]) = .returned (.tuple #[.int k a', .int k' b', .int k'' c']) := by rw [h, h', h'']

set_option maxRecDepth 100000 in
set_option maxHeartbeats 800000 in
theorem rdigits_any (s : ByteArray) (w : World) (hs : Hid (s.size ≤ 1099511627776)) :
    Calls Tryd.prog 110 #[.string s] w fun e w' =>
      e = .returned (.tuple #[.int .u64 (okNat (dig s.data.toList 0 0).1 (dig s.data.toList 0 0).2.1), .int .i64 (okNat (dig s.data.toList 0 0).1 (dig s.data.toList 0 0).2.2), .int .i64 (dig s.data.toList 0 0).1]) ∧ w = w' := by
  go_enter Tryd.func110, Tryd.ntmps110
  go_wp2_with fail
  go_loop [2, 3, 4, 5, 6, 7] (fun r0 r1 r2 sn su sk => ∃ (k n u : Nat), Hid (k ≤ 9 ∧ n < 128 ^ k ∧ k ≤ s.size ∧ u = 128 ^ k) ∧ r0 = .int .u64 0 ∧ r1 = .int .i64 0 ∧ r2 = .int .i64 0 ∧ sn = .int .u64 n ∧ su = .int .u64 u ∧ sk = .int .i64 k ∧
      Hid (dig s.data.toList 0 0 = ((dig (s.data.toList.drop k) k n).1, (dig (s.data.toList.drop k) k n).2.1, (dig (s.data.toList.drop k) k n).2.2 + k))) (fun _ _ _ _ _ sk => 10 - (intOf sk).toNat)
  case atStart => exact ⟨0, 0, 1, ⟨by omega, by omega, by omega, rfl⟩, rfl, rfl, rfl, rfl, rfl, rfl, rfl⟩
  case round =>
    obtain ⟨k, n, u, hb, rfl, rfl, rfl, rfl, rfl, rfl, hD⟩ := hrel
    have hk : k ≤ 9 := hb.out.1
    have hsz : s.size ≤ 1099511627776 := hs.out
    by_cases h0 : k < s.size
    · have hcons : Hid (s.data.toList.drop k = s[k] :: s.data.toList.drop (k + 1)) := drop_byte s k h0
      have hb8 : s[k].toNat < 256 := s[k].toNat_lt
      have Hn := Lib.hid hb.out.2.1
      have Hu := Lib.hid hb.out.2.2.2
      have hm : Hid (¬ (k = 9 ∧ 1 < s[k].toNat) → IntKind.u64.wrap ((s[k].toNat : Int) % 128 * (u : Int)) = (((s[k].toNat % 128) * 128 ^ k : Nat) : Int)) := by
        intro h9
        have hx : k = 9 → s[k].toNat % 128 ≤ 1 := by omega
        have := mul_digit k (s[k].toNat % 128) (by omega) hk hx
        rw [IntKind.wrap_u64, Hu.out]
        have e : (s[k].toNat : Int) % 128 * ((128 ^ k : Nat) : Int) = ((s[k].toNat % 128 * 128 ^ k : Nat) : Int) := by simp
        rw [e]; omega
      have ha : Hid (¬ (k = 9 ∧ 1 < s[k].toNat) → IntKind.u64.wrap ((n : Int) + (((s[k].toNat % 128) * 128 ^ k : Nat) : Int)) = ((n + (s[k].toNat % 128) * 128 ^ k : Nat) : Int)) := by
        intro h9
        have hx : k = 9 → s[k].toNat % 128 ≤ 1 := by omega
        have := add_digit n k (s[k].toNat % 128) Hn.out (by omega) hk hx
        rw [IntKind.wrap_u64]; omega
      by_cases h9 : k = 9
      · subst h9
        generalize hbb : s[9] = b at *
        by_cases hx1 : 1 < b.toNat
        · have e2 : dig s.data.toList 0 0 = (3, 0, 1 + 9) := by rw [hD.out, hcons.out]; simp only [dig]; rw [if_pos ⟨trivial, hx1⟩]
          have E2 := Lib.hid e2; clear e2
          go_wp2_with fail
          go_ret3
          rw [E2.out]
          exact ⟨by first | rfl | trivial, by first | rfl | trivial⟩
        · by_cases hx0 : b.toNat = 0
          · have e2 : dig s.data.toList 0 0 = (3, 0, 1 + 9) := by rw [hD.out, hcons.out]; simp only [dig]; rw [if_neg (by omega), if_pos (by omega), if_pos ⟨hx0, by omega⟩]
            have E2 := Lib.hid e2; clear e2
            go_wp2_with fail
            go_ret3
            rw [E2.out]
            exact ⟨by first | rfl | trivial, by first | rfl | trivial⟩
          · have e2 : dig s.data.toList 0 0 = (0, n + b.toNat * 128 ^ 9, 1 + 9) := by rw [hD.out, hcons.out]; simp only [dig]; rw [if_neg (by omega), if_pos (by omega), if_neg (by omega)]
            have E2 := Lib.hid e2; clear e2
            have E5 : Hid (b.toNat % 128 = b.toNat) := Nat.mod_eq_of_lt (by omega)
            go_wp2_with fail
            go_ret3
            rw [E2.out]
            refine ⟨ret3i ?_ rfl rfl, by first | rfl | trivial⟩
            have h1 := hm.out (by omega)
            have h2 := ha.out (by omega)
            rw [h1, h2, E5.out]
            rfl
      · generalize hbb : s[k] = b at *
        have hk9 : k < 9 := by omega
        by_cases hx0 : 0 < k ∧ b.toNat = 0
        · have e2 : dig s.data.toList 0 0 = (3, 0, 1 + k) := by rw [hD.out, hcons.out]; simp only [dig]; rw [if_neg (by omega), if_pos (by omega), if_pos ⟨hx0.2, hx0.1⟩]
          have E2 := Lib.hid e2; clear e2
          obtain ⟨hx3, hx4⟩ := hx0
          go_wp2_with fail
          go_ret3
          rw [E2.out]
          exact ⟨by first | rfl | trivial, by first | rfl | trivial⟩
        · by_cases hx1 : b.toNat < 128
          · have e2 : dig s.data.toList 0 0 = (0, n + b.toNat * 128 ^ k, 1 + k) := by rw [hD.out, hcons.out]; simp only [dig]; rw [if_neg (by omega), if_pos hx1, if_neg (by omega)]
            have E2 := Lib.hid e2; clear e2
            have E5 : Hid (b.toNat % 128 = b.toNat) := Nat.mod_eq_of_lt hx1
            have hkk : k = 0 ∨ (0 < k ∧ 0 < b.toNat) := by omega
            rcases hkk with rfl | ⟨hx4, hx5⟩
            all_goals
              go_wp2_with fail
              go_ret3
              rw [E2.out]
              refine ⟨ret3i ?_ (by show _ = ((1 + _ : Nat) : Int); simp; try omega) rfl, by first | rfl | trivial⟩
              have h1 := hm.out (by omega)
              have h2 := ha.out (by omega)
              rw [h1, h2, E5.out]
              rfl
          · have e2 : dig (s.data.toList.drop k) k n = ((dig (s.data.toList.drop (k + 1)) (k + 1) (n + (b.toNat % 128) * 128 ^ k)).1, (dig (s.data.toList.drop (k + 1)) (k + 1) (n + (b.toNat % 128) * 128 ^ k)).2.1, (dig (s.data.toList.drop (k + 1)) (k + 1) (n + (b.toNat % 128) * 128 ^ k)).2.2 + 1) := by
              rw [hcons.out]; simp only [dig]; rw [if_neg (by omega), if_neg hx1]
            have E2 := Lib.hid e2; clear e2
            have hU : Hid (IntKind.u64.wrap ((u : Int) * 128) = ((u * 128 : Nat) : Int)) := by
              have h1 : 128 ^ k ≤ 128 ^ 8 := Nat.pow_le_pow_right (by decide) (by omega)
              have h2 := Hu.out
              show _ = _
              rw [IntKind.wrap_u64]; omega
            go_wp2_with fail
            all_goals
              go_round
              case rel =>
                refine ⟨k + 1, n + (b.toNat % 128) * 128 ^ k, u * 128, ⟨by omega, ?_, by omega, ?_⟩, rfl, rfl, rfl, ?_, ?_, by simp, ?_⟩
                · rw [Nat.pow_succ]
                  have h1 : b.toNat % 128 * 128 ^ k ≤ 127 * 128 ^ k := Nat.mul_le_mul_right _ (by omega)
                  have h2 := Hn.out
                  omega
                · rw [Nat.pow_succ, Hu.out]
                · rw [hm.out (by omega), ha.out (by omega)]
                · rw [hU.out]
                · show _ = _
                  rw [hD.out, E2.out]
                  simp only [Nat.add_assoc, Nat.add_comm 1 k]
              case measure => simp [intOf]; omega
    · have hkk : k = s.size := by have := hb.out.2.2.1; omega
      have e1 : s.data.toList.drop k = [] := by rw [hkk]; exact List.drop_of_length_le (by simp)
      have e2 := hD.out
      rw [e1] at e2
      simp only [dig] at e2
      have E2 := Lib.hid e2; clear e2 e1 hkk
      go_wp2_with fail
      go_ret3
      rw [E2.out]
      exact ⟨by first | rfl | trivial, by first | rfl | trivial⟩

theorem rest_data (s : ByteArray) (p : Nat) : (s.extract p s.size).data.toList = s.data.toList.drop p := Lib.extract_to_end s p

theorem quiet_same {P : Program} {f : FuncId} {args : Array Value} {w : World} {n : Nat} {v : Value}
    (h : Calls P f args (w.drewN n) fun e w' => e = .returned v ∧ w.drewN n = w') : Calls P f args (w.drewN n) fun e w'' => e = .returned v ∧ ∃ m, w'' = w.drewN m :=
  h.mono fun _ _ ⟨he, hb⟩ => ⟨he, n, hb.symm⟩

set_option maxRecDepth 100000 in
set_option maxHeartbeats 800000 in
theorem FNum_nat (g : Nat) (s : ByteArray) (p : Nat) (f : Int) (m : Nat) (w : World) (hr : Hid (Ref w g s p f)) (hs : Hid (s.size ≤ 1099511627776)) (hp : Hid (p ≤ s.size)) :
    Calls Tryd.prog 73 #[.pointer (some ⟨g, 0, none⟩), .int .u64 m] w fun e w' => e = .returned (.int .u64 (rNum s p f m).1) ∧
      Ref w' g s (rNum s p f m).2.1 (rNum s p f m).2.2 ∧ w.grownBy w' (some g) := by
  have c0 := hr.out.s
  have c1 := hr.out.p
  have c2 := hr.out.f
  have z1 := hr.out.z 1
  have z2 := hr.out.z 2
  have hps : p ≤ s.size := hp.out
  have hsz : s.size ≤ 1099511627776 := hs.out
  by_cases h0 : f = 0
  · subst h0
    have hfit := Lib.hid (dig_fits s p hp.out)
    have hd : ∀ n, Calls Tryd.prog 110 #[.string (s.extract p s.size)] (w.drewN n) _ := fun n => rdigits_any (s.extract p s.size) (w.drewN n) (by have := hs.out; show _ ≤ _; simp; omega)
    rw [rest_data] at hd
    have hN : rNum s p 0 m = if (numC (s.data.toList.drop p) m).1 = 0 then (((numC (s.data.toList.drop p) m).2.1 : Int), p + (numC (s.data.toList.drop p) m).2.2, 0) else (0, p, (numC (s.data.toList.drop p) m).1) := rfl
    have hC : numC (s.data.toList.drop p) m = if (dig (s.data.toList.drop p) 0 0).1 = 0 ∧ m < (dig (s.data.toList.drop p) 0 0).2.1 then (4, (dig (s.data.toList.drop p) 0 0).2.1, (dig (s.data.toList.drop p) 0 0).2.2) else dig (s.data.toList.drop p) 0 0 := rfl
    generalize numC (s.data.toList.drop p) m = y at *
    generalize rNum s p 0 m = r at *
    generalize dig (s.data.toList.drop p) 0 0 = x at *
    obtain ⟨er, n, u⟩ := x
    simp only [] at hd hC hfit
    by_cases h1 : er = 0
    · subst h1
      simp only [okNat_zero] at hd
      have Hd := Lib.hid hd; clear hd
      by_cases hmn : m < n
      · rw [if_pos ⟨rfl, hmn⟩] at hC
        subst hC
        rw [if_neg (show ¬ (4 : Int) = 0 by decide)] at hN
        subst hN
        go_enter Tryd.func73, Tryd.ntmps73
        go_wp2_with fail
        go_quiet ((go_at_call 110; exact quiet_same (Hd.out _)))
        go_wp2_with fail
        go_ret
        exact ⟨rfl, hr.out.setf _ _, grown_set (World.grownBy.refl _ _) _ _ _⟩
      · rw [if_neg (by omega)] at hC
        subst hC
        rw [if_pos rfl] at hN
        subst hN
        go_enter Tryd.func73, Tryd.ntmps73
        go_wp2_with fail
        go_quiet ((go_at_call 110; exact quiet_same (Hd.out _)))
        have hfit2 := hfit.out
        go_wp2_with fail
        go_ret
        exact ⟨rfl, hr.out.setp _ _ _ (by simp), grown_set (World.grownBy.refl _ _) _ _ _⟩
    · rw [if_neg (by simp [h1])] at hC
      subst hC
      rw [if_neg h1] at hN
      subst hN
      have h1' : (er == 0) = false := by simpa using h1
      have ho : ∀ k, okNat er k = 0 := fun k => by unfold okNat; rw [if_neg h1]
      simp only [ho] at hd
      have Hd := Lib.hid hd; clear hd ho h1
      go_enter Tryd.func73, Tryd.ntmps73
      go_wp2_with fail
      go_quiet ((go_at_call 110; exact quiet_same (Hd.out _)))
      go_wp2_with fail
      go_ret
      exact ⟨rfl, hr.out.setf _ _, grown_set (World.grownBy.refl _ _) _ _ _⟩
  · have hN : rNum s p f m = (0, p, f) := by unfold rNum; rw [if_neg h0]
    rw [hN]
    have h0' : (f == 0) = false := by simpa using h0
    clear hN h0
    go_enter Tryd.func73, Tryd.ntmps73
    go_wp2_with fail
    go_ret
    exact ⟨rfl, hr.out, World.grownBy.refl _ _⟩
end Go.Proofs.YtaigngdlioplaaaDoor
