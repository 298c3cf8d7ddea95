/- Plain laws on numbers: how a sign is turned in and out; no program. -/
import Derived.Test.YtjcdpmianmgiaaaLib
namespace Go.Proofs.Ytjcdpmianmgiaaa
open Go.RowKit

def I64 (n : Int) : Prop := -9223372036854775808 ≤ n ∧ n < 9223372036854775808
def U64 (n : Int) : Prop := 0 ≤ n ∧ n < 18446744073709551616

def zig (n : Int) : Int := if 0 ≤ n then 2 * n else -2 * n - 1
def zag (n : Int) : Int := if n % 2 = 0 then n / 2 else -(n / 2) - 1

theorem u64_xor_ones (x : Int) (h : U64 x) : bits .xor .u64 x 18446744073709551615 = 18446744073709551615 - x := by
  unfold U64 at h
  obtain ⟨a, rfl⟩ := Int.eq_ofNat_of_zero_le h.1
  have ha : a < 18446744073709551616 := by omega
  have e : (18446744073709551615 : Int) = ((18446744073709551615 : Nat) : Int) := rfl
  rw [e, u64_xor_nat a _ ha (by decide)]
  have e2 : a ^^^ 18446744073709551615 = 18446744073709551615 - a := by
    have h1 : (BitVec.ofNat 64 a ^^^ BitVec.allOnes 64).toNat = (~~~ (BitVec.ofNat 64 a)).toNat := by rw [BitVec.xor_allOnes]
    rw [BitVec.toNat_not, BitVec.toNat_xor, BitVec.toNat_ofNat, BitVec.toNat_allOnes, Nat.mod_eq_of_lt ha] at h1
    exact h1
  rw [e2]; omega
theorem u64_xor_zero (x : Int) (h : U64 x) : bits .xor .u64 x 0 = x := by
  unfold U64 at h
  rw [u64_xor x 0 h.1 h.2 (by decide) (by decide)]
  simp; omega

theorem zig_bits (n : Int) (h : I64 n) : bits .xor .u64 (IntKind.u64.wrap (wrap64 (n * 2))) (IntKind.u64.wrap (n / 9223372036854775808)) = zig n := by
  unfold I64 at h
  by_cases h0 : 0 ≤ n
  · have e1 : n / 9223372036854775808 = 0 := by omega
    have e2 : IntKind.u64.wrap 0 = 0 := by decide +kernel
    have e3 : IntKind.u64.wrap (wrap64 (n * 2)) = 2 * n := by simp only [wrap64, IntKind.wrap_u64]; omega
    rw [e1, e2, e3, u64_xor_zero _ (by unfold U64; omega), zig, if_pos h0]
  · have e1 : n / 9223372036854775808 = -1 := by omega
    have e2 : IntKind.u64.wrap (-1) = 18446744073709551615 := by decide +kernel
    have e3 : IntKind.u64.wrap (wrap64 (n * 2)) = 2 * n + 18446744073709551616 := by simp only [wrap64, IntKind.wrap_u64]; omega
    rw [e1, e2, e3, u64_xor_ones _ (by unfold U64; omega), zig, if_neg h0]; omega
theorem zig_ref1 (n : Int) (h : I64 n) (h0 : 0 ≤ n) : IntKind.u64.wrap (2 * IntKind.u64.wrap n) = zig n := by
  unfold I64 at h
  rw [zig, if_pos h0]; simp only [IntKind.wrap_u64]; omega
theorem zig_ref2 (n : Int) (h : I64 n) (h0 : n < 0) : IntKind.u64.wrap (IntKind.u64.wrap (2 * IntKind.u64.wrap (wrap64 (-wrap64 (n + 1)))) + 1) = zig n := by
  unfold I64 at h
  rw [zig, if_neg (by omega)]; simp only [wrap64, IntKind.wrap_u64]; omega

theorem i64_xor_zero (x : Int) (h : I64 x) (h0 : 0 ≤ x) : bits .xor .i64 x 0 = x := by
  unfold I64 at h
  obtain ⟨a, rfl⟩ := Int.eq_ofNat_of_zero_le h0
  show IntKind.i64.wrap ((BitVec.ofInt 64 (a : Int) ^^^ BitVec.ofInt 64 0).toNat : Int) = _
  have e : BitVec.ofInt 64 (a : Int) ^^^ BitVec.ofInt 64 0 = BitVec.ofInt 64 (a : Int) := by simp
  rw [e, BitVec.ofInt_natCast, BitVec.toNat_ofNat, IntKind.wrap_i64]; omega
theorem i64_xor_ones (x : Int) (h : I64 x) (h0 : 0 ≤ x) : bits .xor .i64 x (-1) = -1 - x := by
  unfold I64 at h
  obtain ⟨a, rfl⟩ := Int.eq_ofNat_of_zero_le h0
  show IntKind.i64.wrap ((BitVec.ofInt 64 (a : Int) ^^^ BitVec.ofInt 64 (-1)).toNat : Int) = _
  have e : BitVec.ofInt 64 (-1) = BitVec.allOnes 64 := by decide
  rw [e, BitVec.xor_allOnes, BitVec.toNat_not, BitVec.ofInt_natCast, BitVec.toNat_ofNat, IntKind.wrap_i64]; omega

theorem u64_and_one (n : Int) (h : U64 n) : bits .and .u64 n 1 = n % 2 := by
  unfold U64 at h
  obtain ⟨a, rfl⟩ := Int.eq_ofNat_of_zero_le h.1
  have ha : a < 18446744073709551616 := by omega
  have e : (1 : Int) = ((1 : Nat) : Int) := rfl
  rw [e, u64_and_nat a 1 ha (by decide), Nat.and_one_is_mod]; omega
theorem zag_bits (n : Int) (h : U64 n) : bits .xor .i64 (wrap64 (n / 2)) (wrap64 (-wrap64 (bits .and .u64 n 1))) = zag n := by
  rw [u64_and_one n h]
  unfold U64 at h
  have e1 : wrap64 (n / 2) = n / 2 := by simp only [wrap64]; omega
  by_cases h0 : n % 2 = 0
  · have e2 : wrap64 (-wrap64 (n % 2)) = 0 := by rw [h0]; decide +kernel
    rw [e1, e2, i64_xor_zero _ (by unfold I64; omega) (by omega), zag, if_pos h0]
  · have h1 : n % 2 = 1 := by omega
    have e2 : wrap64 (-wrap64 (n % 2)) = -1 := by rw [h1]; decide +kernel
    rw [e1, e2, i64_xor_ones _ (by unfold I64; omega) (by omega), zag, if_neg h0]; omega

theorem zig_u64 (n : Int) (h : I64 n) : U64 (zig n) := by unfold I64 at h; unfold U64 zig; split <;> omega
theorem zag_i64 (n : Int) (h : U64 n) : I64 (zag n) := by unfold U64 at h; unfold I64 zag; split <;> omega
theorem zag_zig (n : Int) : zag (zig n) = n := by unfold zag zig; split <;> split <;> omega
theorem zig_zag (n : Int) (h : U64 n) : zig (zag n) = n := by unfold U64 at h; unfold zag zig; split <;> split <;> omega

theorem wf_u64 {n : Int} (h : (Lit.int .u64 n).wf = true) : Hid (U64 n) := by
  simp [Lit.wf, IntKind.min, IntKind.max, IntKind.signed, IntKind.bits] at h
  show U64 n
  unfold U64; omega
theorem wf_u8 {n : Int} (h : (Lit.int .u8 n).wf = true) : Hid (0 ≤ n ∧ n ≤ 255) := by
  simp [Lit.wf, IntKind.min, IntKind.max, IntKind.signed, IntKind.bits] at h
  show _ ∧ _
  omega
theorem wf_u16 {n : Int} (h : (Lit.int .u16 n).wf = true) : Hid (0 ≤ n ∧ n ≤ 65535) := by
  simp [Lit.wf, IntKind.min, IntKind.max, IntKind.signed, IntKind.bits] at h
  show _ ∧ _
  omega
theorem wf_i64 {n : Int} (h : (Lit.int .i64 n).wf = true) : Hid (I64 n) := by
  simp [Lit.wf, IntKind.min, IntKind.max, IntKind.signed, IntKind.bits] at h
  show I64 n
  unfold I64; omega
end Go.Proofs.Ytjcdpmianmgiaaa
