/- The tree: hashes, split; the reference's. -/
import Derived.Test.YtaigngdlioplaaaDoorTreeQ
namespace Go.Proofs.YtaigngdlioplaaaDoor
open Go Go.RowKit

theorem mark_size (b : UInt8) (s : ByteArray) : ((⟨#[b]⟩ : ByteArray) ++ s).size = s.size + 1 := by
  rw [ByteArray.size_append]
  show 1 + _ = _
  omega

set_option maxRecDepth 100000 in
theorem hash_any (K : Nat → Int) (H : St) (s : ByteArray) (n : Int) (w : World) (hT : Hid (ShaT w K H)) (hs : Hid (s.size ≤ 1099511000000)) (hn : Hid (I64 n)) :
    Calls Tryd.prog 76 #[.string s, .int .i64 n] w fun e w' => e = .returned (.string (cutS K H s n)) ∧ Below w.heap.size w w' := by
  have q := Lib.hid (Cut_any K H s n w hT hs hn)
  generalize cutS K H s n = S at *
  generalize (if n < 1 ∨ 32 < n then (1 : Int) else 0) = er at *
  go_enter Tryd.func76, Tryd.ntmps76
  go_wp2_with fail
  refine q.out.mono ?_
  rintro e w1 ⟨rfl, hb⟩
  have HB := Lib.hid hb
  clear hb
  go_wp2_with fail
  go_ret
  exact ⟨rfl, HB.out⟩

set_option maxRecDepth 100000 in
theorem Leaf_any (K : Nat → Int) (H : St) (s : ByteArray) (n : Int) (w : World) (hT : Hid (ShaT w K H)) (hs : Hid (s.size ≤ 1099510000000)) (hn : Hid (I64 n)) :
    Calls Tryd.prog 27 #[.string s, .int .i64 n] w fun e w' => e = .returned (.string (leafS K H n s)) ∧ Below w.heap.size w w' := by
  have hz := mark_size 0 s
  have hs2 := hs.out
  have q := Lib.hid (hash_any K H (⟨#[0]⟩ ++ s) n w hT (by show _ ≤ _; omega) hn)
  unfold leafS
  generalize cutS K H (⟨#[0]⟩ ++ s) n = S at *
  go_enter Tryd.func27, Tryd.ntmps27
  go_wp2_with fail
  refine q.out.mono ?_
  rintro e w1 ⟨rfl, hb⟩
  have HB := Lib.hid hb
  clear hb
  go_wp2_with fail
  go_ret
  exact ⟨rfl, HB.out⟩

set_option maxRecDepth 100000 in
theorem Node_any (K : Nat → Int) (H : St) (a b : ByteArray) (n : Int) (w : World) (hT : Hid (ShaT w K H)) (ha : Hid (a.size ≤ 1000000)) (hb : Hid (b.size ≤ 1000000)) (hn : Hid (I64 n)) :
    Calls Tryd.prog 28 #[.string a, .string b, .int .i64 n] w fun e w' => e = .returned (.string (nodeS K H n a b)) ∧ Below w.heap.size w w' := by
  have hz : ((⟨#[1]⟩ : ByteArray) ++ a ++ b).size = a.size + 1 + b.size := by rw [ByteArray.size_append, mark_size]
  have hz1 := mark_size 1 a
  have ha2 := ha.out
  have hb2 := hb.out
  have q := Lib.hid (hash_any K H (⟨#[1]⟩ ++ a ++ b) n w hT (by show _ ≤ _; omega) hn)
  unfold nodeS
  generalize cutS K H (⟨#[1]⟩ ++ a ++ b) n = S at *
  go_enter Tryd.func28, Tryd.ntmps28
  go_wp2_with fail
  refine q.out.mono ?_
  rintro e w1 ⟨rfl, hb⟩
  have HB := Lib.hid hb
  clear hb
  go_wp2_with fail
  go_ret
  exact ⟨rfl, HB.out⟩

def splitI (c : Int) : Int := if c < 2 then 0 else (splitN c.toNat : Nat)
theorem splitN_go (c : Nat) (h : 2 ≤ c) : splitN c = splitF 62 1 c := by unfold splitN; rw [if_neg (by omega)]
theorem pow_62 (k j : Nat) (h : k * 2 ^ j = 4611686018427387904) (hj : j = 0) : k = 4611686018427387904 := by subst hj; simpa using h
theorem pow_step (k j : Nat) (h : k * 2 ^ (j + 1) = 4611686018427387904) : 2 * k * 2 ^ j = 4611686018427387904 := by
  rw [← h, Nat.pow_succ]
  rw [Nat.mul_comm 2 k, Nat.mul_assoc, Nat.mul_comm (2 ^ j) 2]

set_option maxRecDepth 100000 in
set_option maxHeartbeats 1000000 in
theorem Split_any (c : Int) (w : World) (hc : Hid (I64 c)) : Calls Tryd.prog 29 #[.int .i64 c] w fun e w' => e = .returned (.int .i64 (splitI c)) ∧ w = w' := by
  by_cases h2 : c < 2
  · rw [show splitI c = 0 by unfold splitI; rw [if_pos h2]]
    go_enter Tryd.func29, Tryd.ntmps29
    go_wp2_with fail
    go_ret
    exact ⟨rfl, rfl⟩
  · obtain ⟨n, rfl⟩ := Int.eq_ofNat_of_zero_le (show 0 ≤ c by omega)
    have h3 : 2 ≤ n := by omega
    have hcb : n < 9223372036854775808 := by have := hc.out; unfold I64 at this; omega
    have hs : Hid (splitI (n : Int) = (splitN n : Nat)) := by show _ = _; unfold splitI; rw [if_neg h2, Int.toNat_natCast]
    have hs0 : Hid (splitF 62 1 n = splitN n) := (splitN_go n h3).symm
    rw [hs.out]
    generalize splitN n = X at *
    clear hs hc
    go_enter Tryd.func29, Tryd.ntmps29
    go_wp2_with fail
    go_loopw [3] (fun kv wr => ∃ k j : Nat, kv = .int .i64 k ∧ Hid (splitF j k n = X) ∧ Hid (k * 2 ^ j = 4611686018427387904) ∧ Hid (1 ≤ k ∧ k < n) ∧ w = wr) (fun kv _ => n - (intOf kv).toNat)
    case atStart => exact ⟨1, 62, rfl, hs0, by show _ = _; decide, by show _ ∧ _; omega, rfl⟩
    case round =>
      obtain ⟨k, j, rfl, hx, hp, hk, rfl⟩ := hrel
      obtain ⟨hk1, hk2⟩ := hk.out
      by_cases hlt : k < n - k
      · have hj : j ≠ 0 := fun h => by have := pow_62 k j hp.out h; omega
        obtain ⟨i, rfl⟩ : ∃ i, j = i + 1 := ⟨j - 1, by omega⟩
        have hx2 := Lib.hid ((splitF_go i k n hlt).symm.trans hx.out)
        have hp2 := Lib.hid (pow_step k i hp.out)
        clear hx hp hk hj
        go_wp2_with fail
        go_roundw
        case rel => exact ⟨2 * k, i, by go_num, hx2, hp2, by show _ ∧ _; omega, trivial⟩
        case measure => simp [intOf]; omega
      · have hx2 := Lib.hid ((splitF_stop j k n hlt).symm.trans hx.out)
        clear hx hp hk
        go_wp2_with fail
        go_ret
        exact ⟨by rw [← hx2.out]; rfl, rfl⟩

set_option maxRecDepth 100000 in
set_option maxHeartbeats 1000000 in
theorem rSplit_any (c : Int) (w : World) (hc : Hid (I64 c)) : Calls Tryd.prog 30 #[.int .i64 c] w fun e w' => e = .returned (.int .i64 (splitI c)) ∧ w = w' := by
  by_cases h2 : c < 2
  · rw [show splitI c = 0 by unfold splitI; rw [if_pos h2]]
    go_enter Tryd.func30, Tryd.ntmps30
    go_wp2_with fail
    go_ret
    exact ⟨rfl, rfl⟩
  · obtain ⟨n, rfl⟩ := Int.eq_ofNat_of_zero_le (show 0 ≤ c by omega)
    have h3 : 2 ≤ n := by omega
    have hcb : n < 9223372036854775808 := by have := hc.out; unfold I64 at this; omega
    have hs : Hid (splitI (n : Int) = (splitN n : Nat)) := by show _ = _; unfold splitI; rw [if_neg h2, Int.toNat_natCast]
    have hs0 : Hid (splitF 62 1 n = splitN n) := (splitN_go n h3).symm
    rw [hs.out]
    generalize splitN n = X at *
    clear hs hc
    go_enter Tryd.func30, Tryd.ntmps30
    go_wp2_with fail
    go_loopw [3, 4] (fun kv iv wr => ∃ k i : Nat, kv = .int .i64 k ∧ iv = .int .i64 i ∧ Hid (i ≤ 62) ∧ Hid (splitF (62 - i) k n = X) ∧ Hid (k * 2 ^ (62 - i) = 4611686018427387904) ∧ Hid (1 ≤ k ∧ k < n) ∧ w = wr) (fun kv _ _ => n - (intOf kv).toNat)
    case atStart => exact ⟨1, 0, rfl, rfl, by show _ ≤ _; omega, hs0, by show _ = _; decide, by show _ ∧ _; omega, rfl⟩
    case round =>
      obtain ⟨k, i, rfl, rfl, hi, hx, hp, hk, rfl⟩ := hrel
      have hi2 := hi.out
      obtain ⟨hk1, hk2⟩ := hk.out
      by_cases hlt : k < n - k
      · have hj : i < 62 := by
          rcases Nat.lt_or_ge i 62 with h | h
          · exact h
          · have := pow_62 k (62 - i) hp.out (by omega); omega
        have e1 : 62 - i = (62 - (i + 1)) + 1 := by omega
        have hx2 : Hid (splitF (62 - (i + 1)) (2 * k) n = X) := by
          have := hx.out
          rw [e1, splitF_go _ _ _ hlt] at this
          exact this
        have hp2 : Hid (2 * k * 2 ^ (62 - (i + 1)) = 4611686018427387904) := by
          have := hp.out
          rw [e1] at this
          exact pow_step _ _ this
        clear hx hp hk e1 hi
        go_wp2_with fail
        go_roundw
        case rel => exact ⟨2 * k, i + 1, by go_num, by go_num, by show _ ≤ _; omega, hx2, hp2, by show _ ∧ _; omega, trivial⟩
        case measure => simp [intOf]; omega
      · have hx2 := Lib.hid ((splitF_stop (62 - i) k n hlt).symm.trans hx.out)
        clear hx hp hk hi
        by_cases hi62 : i < 62
        · go_wp2_with fail
          go_ret
          exact ⟨by rw [← hx2.out]; rfl, rfl⟩
        · go_wp2_with fail
          go_ret
          exact ⟨by rw [← hx2.out]; rfl, rfl⟩
end Go.Proofs.YtaigngdlioplaaaDoor
