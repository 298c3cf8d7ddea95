/- The digits that a reader of the program reads. -/
import Derived.Test.YtjcdpmianmgiaaaNumsB
import Derived.Test.YtjcdpmianmgiaaaBlk
namespace Go.Proofs.Ytjcdpmianmgiaaa
open Go.RowKit

/-- A reader in a block. -/
def Rdr (w : World) (g : Nat) (s : ByteArray) (at_ : Nat) (f : Int) : Prop := w.heap[g]? = some (.cells #[.string s, .int .i64 at_, .int .i64 f] 52 (0, 0))

theorem Rdr.s {w : World} {g : Nat} {s : ByteArray} {p : Nat} {f : Int} (h : Rdr w g s p f) : w.cell? ⟨g, 0, none⟩ = some (.string s) := cells_of_blk h 0 _ rfl
theorem Rdr.p {w : World} {g : Nat} {s : ByteArray} {p : Nat} {f : Int} (h : Rdr w g s p f) : w.cell? ⟨g, 1, none⟩ = some (.int .i64 p) := cells_of_blk h 1 _ rfl
theorem Rdr.f {w : World} {g : Nat} {s : ByteArray} {p : Nat} {f : Int} (h : Rdr w g s p f) : w.cell? ⟨g, 2, none⟩ = some (.int .i64 f) := cells_of_blk h 2 _ rfl
theorem Rdr.z {w : World} {g : Nat} {s : ByteArray} {p : Nat} {f : Int} (h : Rdr w g s p f) (i : Nat) : w.frozen? ⟨g, i, none⟩ = false := free_of_blk h i

theorem Rdr.setp {w : World} {g : Nat} {s : ByteArray} {p : Nat} {f : Int} (h : Rdr w g s p f) (m : Nat) (x : Int) (y : Nat) (hx : x = (y : Int)) : Rdr ((w.drewN m).setCell ⟨g, 1, none⟩ (.int .i64 x)) g s y f := by
  unfold Rdr at *
  subst hx
  simp [World.setCell, World.drewN, Array.getElem?_modify, h]
theorem Rdr.lt {w : World} {g : Nat} {s : ByteArray} {p : Nat} {f : Int} (h : Rdr w g s p f) : g < w.heap.size := (Array.getElem?_eq_some_iff.1 h).1
theorem Rdr.alloc {w : World} {g : Nat} {s : ByteArray} {p : Nat} {f : Int} (h : Rdr w g s p f) (o : Obj) : Rdr (w.alloc o) g s p f := (Below.heap_alloc w o g h.lt).trans h
theorem Rdr.drewN {w : World} {g : Nat} {s : ByteArray} {p : Nat} {f : Int} (h : Rdr w g s p f) (n : Nat) : Rdr (w.drewN n) g s p f := h
theorem Rdr.set2 {w : World} {g : Nat} {s : ByteArray} {p : Nat} {f : Int} (h : Rdr w g s p f) (x : Int) (y : Nat) (hx : x = (y : Int)) (e : Int) : Rdr ((w.setCell ⟨g, 1, none⟩ (.int .i64 x)).setCell ⟨g, 2, none⟩ (.int .i64 e)) g s y e := by
  unfold Rdr at *
  subst hx
  simp [World.setCell, Array.getElem?_modify, h]
theorem Rdr.setf {w : World} {g : Nat} {s : ByteArray} {p : Nat} {f : Int} (h : Rdr w g s p f) (m : Nat) (e : Int) : Rdr ((w.drewN m).setCell ⟨g, 2, none⟩ (.int .i64 e)) g s p e := by
  unfold Rdr at *
  simp [World.setCell, World.drewN, Array.getElem?_modify, h]
/-- The number that stands next: fault, number, how many bytes were passed. -/
def dig : List UInt8 → Nat → Nat → Int × Nat × Nat
  | [], _, _ => (2, 0, 0)
  | b :: r, k, n =>
    if k = 9 ∧ 1 < b.toNat then (3, 0, 1)
    else if b.toNat < 128 then (if b.toNat = 0 ∧ 0 < k then (3, 0, 1) else (0, n + b.toNat * 128 ^ k, 1))
    else ((dig r (k + 1) (n + (b.toNat % 128) * 128 ^ k)).1, (dig r (k + 1) (n + (b.toNat % 128) * 128 ^ k)).2.1, (dig r (k + 1) (n + (b.toNat % 128) * 128 ^ k)).2.2 + 1)

theorem drop_byte (s : ByteArray) (q : Nat) (h : q < s.size) : s.data.toList.drop q = s[q] :: s.data.toList.drop (q + 1) := by
  rw [List.drop_eq_getElem_cons (by simpa using h)]; rfl

theorem ret_ii {k k' : IntKind} {a a' b b' : Int} (h : a = a') (h' : b = b') : Ending.returned (.tuple #[.int k a, .int k' b]) = .returned (.tuple #[.int k a', .int k' b']) := by rw [h, h']

theorem or_digit (n k d : Nat) (hn : n < 128 ^ k) (hd : d < 128) (hk : k ≤ 9) (h9 : k = 9 → d ≤ 1) : bits .or .u64 (n : Int) (IntKind.u64.wrap ((d : Int) * 2 ^ (7 * k))) = ((n + d * 128 ^ k : Nat) : Int) := by
  have e0 : (2 : Nat) ^ (7 * k) = 128 ^ k := by rw [Nat.pow_mul]
  have hlt : d * 128 ^ k < 18446744073709551616 := by
    by_cases h : k = 9
    · subst h
      have := h9 rfl
      have h2 : d * 128 ^ 9 ≤ 1 * 128 ^ 9 := Nat.mul_le_mul_right _ this
      omega
    · have h1 : 128 ^ k ≤ 128 ^ 8 := Nat.pow_le_pow_right (by decide) (by omega)
      have h2 : d * 128 ^ k ≤ 127 * 128 ^ 8 := Nat.mul_le_mul (by omega) h1
      omega
  have hn2 : n < 18446744073709551616 := by
    have h1 : 128 ^ k ≤ 128 ^ 9 := Nat.pow_le_pow_right (by decide) hk
    omega
  have e1 : ((d : Int) * 2 ^ (7 * k)) = ((d * 128 ^ k : Nat) : Int) := by
    rw [← e0]; simp
  have e2 : IntKind.u64.wrap ((d * 128 ^ k : Nat) : Int) = ((d * 128 ^ k : Nat) : Int) := by rw [IntKind.wrap_u64]; omega
  rw [e1, e2, u64_or_nat n _ hn2 hlt]
  have e3 : n ||| d * 128 ^ k = n + d * 128 ^ k := by
    rw [Nat.or_comm, ← e0, Nat.mul_comm, Nat.add_comm]
    exact (Nat.two_pow_add_eq_or_of_lt (by rw [e0]; exact hn) d).symm
  rw [e3]

theorem or_digit_mod (n k d : Nat) (hn : n < 128 ^ k) (hk : k ≤ 9) (h9 : k = 9 → d % 128 ≤ 1) : bits .or .u64 (n : Int) (IntKind.u64.wrap ((d : Int) % 128 * 2 ^ (7 * k))) = ((n + d % 128 * 128 ^ k : Nat) : Int) := by
  have := or_digit n k (d % 128) hn (by omega) hk h9
  rw [← this]; simp
theorem or_digit_zero (n k : Nat) (hn : n < 128 ^ k) (hk : k ≤ 9) : bits .or .u64 (n : Int) (IntKind.u64.wrap 0) = (n : Int) := by
  have := or_digit n k 0 hn (by omega) hk (by omega)
  simpa using this

theorem or_digit_9 (n d : Nat) (hn : n < 128 ^ 9) (hd : d = 1) : bits .or .u64 (n : Int) ((d : Int) % 128 * 9223372036854775808) = ((n + d * 128 ^ 9 : Nat) : Int) := by
  subst hd
  have := or_digit n 9 1 hn (by omega) (by omega) (by omega)
  rw [← this]
  rfl

set_option maxRecDepth 100000 in
set_option maxHeartbeats 800000 in
theorem digits_any (g : Nat) (s : ByteArray) (p : Nat) (f : Int) (w : World) (hr : Hid (Rdr w g s p f)) (hs : Hid (s.size ≤ 1099511627776)) (hp : Hid (p ≤ s.size)) :
    Calls Try.prog 25 #[.pointer (some ⟨g, 0, none⟩)] w fun e w' => e = .returned (.tuple #[.int .u64 (dig (s.data.toList.drop p) 0 0).2.1, .int .i64 (dig (s.data.toList.drop p) 0 0).1]) ∧
      Rdr w' g s (p + (dig (s.data.toList.drop p) 0 0).2.2) f ∧ w.grownBy w' (some g) := by
  go_enter Try.func25, Try.ntmps25
  go_wp2
  go_loopw [2, 3, 4, 5] (fun r0 r1 sn sk wr => ∃ (k n q : Nat), Hid (k ≤ 9 ∧ n < 128 ^ k ∧ q = p + k ∧ q ≤ s.size) ∧ r0 = .int .u64 0 ∧ r1 = .int .i64 0 ∧ sn = .int .u64 n ∧ sk = .int .i64 k ∧ Hid (Rdr wr g s q f) ∧ Hid (w.grownBy wr (some g)) ∧
      Hid (dig (s.data.toList.drop p) 0 0 = ((dig (s.data.toList.drop q) k n).1, (dig (s.data.toList.drop q) k n).2.1, (dig (s.data.toList.drop q) k n).2.2 + k))) (fun _ _ _ sk _ => 10 - (intOf sk).toNat)
  case atStart => exact ⟨0, 0, p, ⟨by omega, by omega, rfl, hp.out⟩, rfl, rfl, rfl, rfl, hr, World.grownBy.refl _ _, rfl⟩
  case round =>
    obtain ⟨k, n, q, hb, rfl, rfl, rfl, rfl, hR, hG, hD⟩ := hrel
    have c0 := hR.out.s
    have c1 := hR.out.p
    have z1 := hR.out.z 1
    have hk : k ≤ 9 := hb.out.1
    have hsz : s.size ≤ 1099511627776 := hs.out
    by_cases h0 : q = s.size
    · have h0' : ((q : Int) == (s.size : Int)) = true := by simpa using (by omega : (q : Int) = s.size)
      have H0 := Lib.hid h0; clear h0
      go_wp2_with fail
      go_quiet (fail)
      go_wp2_with fail
      go_ret2
      have e1 : s.data.toList.drop q = [] := by rw [H0.out]; exact List.drop_of_length_le (by simp)
      have e2 := hD.out
      rw [e1] at e2
      simp only [dig] at e2
      rw [e2, Nat.zero_add, ← hb.out.2.2.1]
      exact ⟨rfl, hR.out, grown_drewN hG.out _⟩
    · have hlt : q < s.size := by have := hb.out.2.2; omega
      have h0' : ((q : Int) == (s.size : Int)) = false := by simpa using (by omega : ¬ (q : Int) = s.size)
      clear h0
      go_wp2_with fail
      go_quiet (fail)
      go_wp2_with fail
      go_quiet (fail)
      have hcons : Hid (s.data.toList.drop q = s[q] :: s.data.toList.drop (q + 1)) := drop_byte s q hlt
      have hb8 := s[q].toNat_lt
      generalize hx : s[q] = b at *
      have Hx := Lib.hid hx; clear hx
      have hpq := hb.out.2.2.1
      have Hpq := Lib.hid hpq; clear hpq
      have hb8' : b.toNat < 256 := hb8
      clear hb8
      by_cases hx1 : b.toNat < 128
      · by_cases hx2 : k = 9 ∧ 1 < b.toNat
        · have e2 : dig (s.data.toList.drop p) 0 0 = (3, 0, 1 + k) := by rw [hD.out, hcons.out]; simp only [dig]; rw [if_pos hx2]
          have E2 := Lib.hid e2; clear e2
          obtain ⟨rfl, hx3⟩ := hx2
          go_wp2_with fail
          all_goals go_ret2
          all_goals rw [E2.out]
          all_goals exact ⟨rfl, hR.out.setp _ _ _ (by have := Hpq.out; show _ = ((p + (1 + 9) : Nat) : Int); omega), grown_set hG.out _ _ _⟩
        · by_cases hx0 : b.toNat = 0 ∧ 0 < k
          · have e2 : dig (s.data.toList.drop p) 0 0 = (3, 0, 1 + k) := by rw [hD.out, hcons.out]; simp only [dig]; rw [if_neg hx2, if_pos hx1, if_pos hx0]
            have E2 := Lib.hid e2; clear e2
            go_wp2_with fail
            all_goals go_ret2
            all_goals rw [E2.out]
            all_goals exact ⟨rfl, hR.out.setp _ _ _ (by have := Hpq.out; show _ = ((p + (1 + k) : Nat) : Int); omega), grown_set hG.out _ _ _⟩
          · have e2 : dig (s.data.toList.drop p) 0 0 = (0, n + b.toNat * 128 ^ k, 1 + k) := by rw [hD.out, hcons.out]; simp only [dig]; rw [if_neg hx2, if_pos hx1, if_neg hx0]
            have E2 := Lib.hid e2; clear e2
            have E3 := Lib.hid (or_digit_mod n k b.toNat hb.out.2.1 hk (by omega))
            have E6 := fun h : k = 9 => or_digit_9 n b.toNat (by have := hb.out.2.1; rw [h] at this; exact this) (by omega)
            have E6 := Lib.hid E6
            have E4 := Lib.hid (or_digit_zero n k hb.out.2.1 hk)
            have E5 : Hid (b.toNat % 128 = b.toNat) := Nat.mod_eq_of_lt hx1
            go_wp2_with fail
            all_goals go_ret2
            all_goals rw [E2.out]
            all_goals refine ⟨ret_ii ?_ rfl, hR.out.setp _ _ _ (by have h := Hpq.out; show _ = ((p + (1 + k) : Nat) : Int); omega), grown_set hG.out _ _ _⟩
            all_goals first
              | (rw [E3.out, E5.out]; done)
              | (rw [E4.out]; simp only []; have hz : b.toNat = 0 := by assumption
                 rw [hz]; simp; done)
              | (have hz : k = 9 := by omega
                 rw [E6.out hz, hz]; done)
      · have e2 : ∀ (_ : ¬ k = 9), dig (s.data.toList.drop q) k n = ((dig (s.data.toList.drop (q + 1)) (k + 1) (n + (b.toNat % 128) * 128 ^ k)).1, (dig (s.data.toList.drop (q + 1)) (k + 1) (n + (b.toNat % 128) * 128 ^ k)).2.1, (dig (s.data.toList.drop (q + 1)) (k + 1) (n + (b.toNat % 128) * 128 ^ k)).2.2 + 1) := by
          intro h; rw [hcons.out]; simp only [dig]; rw [if_neg (by omega), if_neg hx1]
        have E2 := Lib.hid e2; clear e2
        by_cases hx2 : k = 9
        · have e2 : dig (s.data.toList.drop p) 0 0 = (3, 0, 1 + k) := by rw [hD.out, hcons.out]; simp only [dig]; rw [if_pos (by omega)]
          have E2 := Lib.hid e2; clear e2
          go_wp2_with fail
          all_goals go_ret2
          all_goals rw [E2.out]
          all_goals exact ⟨rfl, hR.out.setp _ _ _ (by have h := Hpq.out; show _ = ((p + (1 + k) : Nat) : Int); omega), grown_set hG.out _ _ _⟩
        · have E3 := Lib.hid (or_digit_mod n k b.toNat hb.out.2.1 hk (by omega))
          go_wp2_with fail
          go_roundw
          case rel =>
            refine ⟨k + 1, n + (b.toNat % 128) * 128 ^ k, q + 1, ⟨by omega, ?_, by have := Hpq.out; omega, by omega⟩, rfl, rfl, ?_, by simp, hR.out.setp _ _ _ (by omega), grown_set hG.out _ _ _, ?_⟩
            · rw [Nat.pow_succ]
              have h1 : b.toNat % 128 * 128 ^ k ≤ 127 * 128 ^ k := Nat.mul_le_mul_right _ (by omega)
              have h2 := hb.out.2.1
              omega
            · rw [E3.out]
            · show _ = _
              rw [hD.out, E2.out hx2]
              simp only [Nat.add_assoc, Nat.add_comm 1 k]
          case measure => simp [intOf]; omega
end Go.Proofs.Ytjcdpmianmgiaaa
