/- Plain laws: what is written is read as it was, and nothing else is read as it. No program. -/
import Derived.Test.YtjcdpmianmgiaaaNumsH
namespace Go.Proofs.Ytjcdpmianmgiaaa
open Go.RowKit

def byteOf (n : Int) : UInt8 := UInt8.ofNat n.toNat
theorem strOfNums_list (xs : List Int) : (strOfNums xs).data.toList = xs.map byteOf := rfl

theorem byteOf_small (b : UInt8) : byteOf (b.toNat : Int) = b := by unfold byteOf; simp
theorem toNat_byteOf (n : Nat) (h : n < 256) : (byteOf (n : Int)).toNat = n := by unfold byteOf; simp; omega

/-- What is read as a number is just its bytes. -/
theorem dig_num (l : List UInt8) : ∀ (k m v u : Nat), k ≤ 9 → dig l k m = (0, v, u) →
    ∃ y, v = m + y * 128 ^ k ∧ l.take u = (numF (9 - k) y).map byteOf ∧ (0 < k → 0 < y) := by
  induction l with
  | nil => intro k m v u _ h; simp [dig] at h
  | cons b r ih =>
    intro k m v u hk h
    unfold dig at h
    split at h
    · simp at h
    · rename_i h1
      split at h
      · rename_i h2
        split at h
        · simp at h
        · rename_i h3
          simp only [Prod.mk.injEq, true_and] at h
          obtain ⟨rfl, rfl⟩ := h
          refine ⟨b.toNat, rfl, ?_, fun hk0 => by omega⟩
          rw [numF_lt _ _ h2]
          simp [byteOf_small]
      · rename_i h2
        have hb : b.toNat < 256 := b.toNat_lt
        have h9 : k ≠ 9 := by omega
        simp only [Prod.mk.injEq] at h
        obtain ⟨e1, e2, e3⟩ := h
        have hd : dig r (k + 1) (m + b.toNat % 128 * 128 ^ k) = (0, v, (dig r (k + 1) (m + b.toNat % 128 * 128 ^ k)).2.2) := by rw [← e1, ← e2]
        obtain ⟨y, hv, ht, hy⟩ := ih (k + 1) _ _ _ (by omega) hd
        refine ⟨b.toNat % 128 + 128 * y, ?_, ?_, fun _ => by have := hy (by omega); omega⟩
        · rw [hv, Nat.pow_succ, Nat.add_mul, Nat.add_assoc]
          congr 2
          rw [Nat.mul_comm 128 y, Nat.mul_assoc, Nat.mul_comm 128 (128 ^ k)]
        · have hy0 := hy (by omega)
          rw [← e3, List.take_succ_cons, ht, show 9 - k = (9 - (k + 1)) + 1 by omega, numF_ge _ _ (by omega), List.map_cons]
          rw [show (b.toNat % 128 + 128 * y) / 128 = y by omega, show (b.toNat % 128 + 128 * y) % 128 + 128 = b.toNat by omega, byteOf_small]

/-- A number's bytes are read as it, whatever stands behind. -/
theorem num_dig (more : List UInt8) : ∀ (j k m y : Nat), j + k = 9 → y * 128 ^ k < 18446744073709551616 → (0 < k → 0 < y) →
    dig ((numF j y).map byteOf ++ more) k m = (0, m + y * 128 ^ k, (numF j y).length) := by
  intro j
  induction j with
  | zero =>
    intro k m y hk hy h0
    have hk9 : k = 9 := by omega
    subst hk9
    have hy1 : y = 1 := by have := h0 (by omega); omega
    subst hy1
    rw [numF_lt 0 1 (by omega)]
    simp only [List.map_cons, List.map_nil, List.cons_append, List.nil_append]
    unfold dig
    have e : (byteOf ((1 : Nat) : Int)).toNat = 1 := by decide
    rw [e]
    simp
  | succ j ih =>
    intro k m y hk hy h0
    by_cases hlt : y < 128
    · rw [numF_lt _ _ hlt]
      simp only [List.map_cons, List.map_nil, List.cons_append, List.nil_append]
      unfold dig
      rw [toNat_byteOf y (by omega), if_neg (by omega), if_pos hlt, if_neg (by omega)]
      rfl
    · rw [numF_ge _ _ hlt]
      simp only [List.map_cons, List.cons_append]
      unfold dig
      rw [toNat_byteOf _ (by omega), if_neg (by omega), if_neg (by omega)]
      have e1 : (y % 128 + 128) % 128 = y % 128 := by omega
      have e2 : y % 128 * 128 ^ k + y / 128 * 128 ^ (k + 1) = y * 128 ^ k := by
        rw [Nat.pow_succ, Nat.mul_comm (128 ^ k) 128, ← Nat.mul_assoc, ← Nat.add_mul]
        congr 1
        omega
      have hy2 : y / 128 * 128 ^ (k + 1) < 18446744073709551616 := by
        have : y / 128 * 128 ^ (k + 1) ≤ y * 128 ^ k := by rw [← e2]; omega
        omega
      rw [e1, ih (k + 1) (m + y % 128 * 128 ^ k) (y / 128) (by omega) hy2 (fun _ => by omega)]
      simp only [Prod.mk.injEq, true_and, List.length_cons, and_true]
      omega

theorem numStr_list (n : Nat) : (numStr n).data.toList = (numF 9 n).map byteOf := rfl
theorem numStr_len (n : Nat) : (numStr n).size = (numF 9 n).length := by unfold numStr; exact strOfNums_size _

theorem dig_numStr (n : Nat) (hn : n < 18446744073709551616) (more : List UInt8) : dig ((numStr n).data.toList ++ more) 0 0 = (0, n, (numStr n).size) := by
  rw [numStr_list, num_dig more 9 0 0 n rfl (by omega) (by omega), numStr_len]
  simp
theorem numStr_of_dig (s : ByteArray) (p v u : Nat) (h : dig (s.data.toList.drop p) 0 0 = (0, v, u)) : numStr v = s.extract p (p + u) := by
  obtain ⟨y, hv, ht, _⟩ := dig_num _ 0 0 v u (by omega) h
  obtain rfl : v = y := by simpa using hv
  apply ByteArray.ext
  apply Array.toList_inj.1
  rw [numStr_list, ← ht, Lib.extract_data]
  congr 1
  omega

theorem rowStr_size (s : ByteArray) : (rowStr s).size ≤ 10 + s.size := by
  unfold rowStr
  have := numStr_size s.size
  simp [ByteArray.size_append]; omega
theorem back_list (n m : Int) (s more : ByteArray) : ((((numStr n.toNat ++ intStr m) ++ rowStr s) ++ more)).data.toList = (numStr n.toNat).data.toList ++ ((intStr m).data.toList ++ ((rowStr s).data.toList ++ more.data.toList)) := by
  simp [ByteArray.data_append]
theorem back_size (n m : Int) (s more : ByteArray) : ((((numStr n.toNat ++ intStr m) ++ rowStr s) ++ more)).size = (numStr n.toNat).size + (intStr m).size + (rowStr s).size + more.size := by
  simp [ByteArray.size_append]
theorem list_len (s : ByteArray) : s.data.toList.length = s.size := by simp
theorem drop_step {s : ByteArray} {p : Nat} {a : ByteArray} {r : List UInt8} (h : s.data.toList.drop p = a.data.toList ++ r) : s.data.toList.drop (p + a.size) = r := by
  rw [← List.drop_drop, h, ← list_len, List.drop_left]
theorem rNum_at (s : ByteArray) (p n : Nat) (r : List UInt8) (hn : n < 18446744073709551616) (h : s.data.toList.drop p = (numStr n).data.toList ++ r) : rNum s p 0 maxU64 = (((n : Nat) : Int), p + (numStr n).size, 0) := by
  unfold rNum
  rw [numC_max, h, dig_numStr n hn]
  rfl
theorem rInt_at (s : ByteArray) (p : Nat) (m : Int) (r : List UInt8) (hm : I64 m) (h : s.data.toList.drop p = (intStr m).data.toList ++ r) : rInt s p 0 = (m, p + (intStr m).size, 0) := by
  unfold rInt
  have hz := zig_u64 m hm
  unfold U64 at hz
  unfold intStr at h ⊢
  rw [h, dig_numStr _ (by omega)]
  simp only [if_true]
  have e : (((zig m).toNat : Nat) : Int) = zig m := by omega
  rw [e, zag_zig]
theorem numF_pos (k n : Nat) : 0 < (numF k n).length := by
  cases k with
  | zero => simp [numF]
  | succ k => unfold numF; split <;> simp
theorem numStr_pos (n : Nat) : 0 < (numStr n).size := by rw [numStr_len]; exact numF_pos 9 n
theorem takeC_at (s : ByteArray) (p : Nat) (a : ByteArray) (r : List UInt8) (hp : p ≤ s.size) (h : s.data.toList.drop p = a.data.toList ++ r) : takeC s p (a.size : Int) = (0, a, p + a.size) := by
  have hl : (s.data.toList.drop p).length = a.size + r.length := by rw [h, List.length_append, list_len]
  rw [drop_len] at hl
  unfold takeC
  rw [if_neg (by omega), if_neg (by omega), Int.toNat_natCast]
  congr 2
  apply ByteArray.ext
  apply Array.toList_inj.1
  rw [Lib.extract_data, h, show p + a.size - p = a.size by omega, ← list_len, List.take_left]
theorem rRow_at (s : ByteArray) (p : Nat) (a : ByteArray) (r : List UInt8) (most : Int) (hmost : a.size ≤ most) (ha : a.size < 18446744073709551616) (h : s.data.toList.drop p = (rowStr a).data.toList ++ r) : rRow s p 0 most = (a, p + (rowStr a).size, 0) := by
  have h2 : s.data.toList.drop p = (numStr a.size).data.toList ++ (a.data.toList ++ r) := by rw [h]; unfold rowStr; simp [ByteArray.data_append]
  have h3 := drop_step h2
  have hp : p + (numStr a.size).size ≤ s.size := by
    have hl : (s.data.toList.drop p).length = (numStr a.size).size + (a.data.toList ++ r).length := by rw [h2, List.length_append, list_len]
    rw [drop_len] at hl
    have := numStr_pos a.size
    omega
  have hC : rowC s p most = (0, a, p + (rowStr a).size) := by
    unfold rowC
    rw [h2, dig_numStr _ ha]
    simp only [if_true]
    rw [if_neg (by omega), takeC_at s _ a r hp h3]
    congr 2
    unfold rowStr
    rw [ByteArray.size_append]; omega
  unfold rRow
  rw [hC]
  rfl
theorem rTake_at (s : ByteArray) (p : Nat) (a : ByteArray) (hp : p ≤ s.size) (h : s.data.toList.drop p = a.data.toList) : rTake s p 0 (a.size : Int) = (a, p + a.size, 0) := by
  unfold rTake
  rw [takeC_at s p a [] hp (by simpa using h)]
  rfl
end Go.Proofs.Ytjcdpmianmgiaaa
