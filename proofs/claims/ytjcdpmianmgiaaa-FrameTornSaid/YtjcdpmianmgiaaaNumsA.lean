/- The bytes of a number, as the program writes them. -/
import Derived.Test.YtjcdpmianmgiaaaChecked
import Derived.Test.YtjcdpmianmgiaaaPlain
namespace Go.Proofs.Ytjcdpmianmgiaaa
open Go.RowKit

theorem el_u8 : Elt Try.prog 28 5 (.int .u8 0) 1 1 := Elt.mk' Try.underlying28 (by kernel_rfl) rfl (by decide)

/-- digits of a number, base 128 -/
def numF : Nat → Nat → List Int
  | 0, n => [(n % 256 : Nat)]
  | k+1, n => if n < 128 then [(n : Nat)] else ((n % 128 + 128 : Nat) : Int) :: numF k (n / 128)

theorem numF_lt (k m : Nat) (h : m < 128) : numF k m = [(m : Int)] := by
  cases k with
  | zero => simp [numF]; omega
  | succ k => simp [numF, h]
theorem numF_ge (k m : Nat) (h : ¬ m < 128) : numF (k+1) m = ((m % 128 + 128 : Nat) : Int) :: numF k (m / 128) := by simp [numF, h]

theorem numF_len (k n : Nat) : (numF k n).length ≤ k + 1 := by
  induction k generalizing n with
  | zero => simp [numF]
  | succ k ih => unfold numF; split <;> simp; have := ih (n / 128); omega

/-- The bytes of a number. -/
def numStr (n : Nat) : ByteArray := strOfNums (numF 9 n)
theorem numStr_size (n : Nat) : (numStr n).size ≤ 10 := by unfold numStr; rw [strOfNums_size]; exact numF_len 9 n

set_option maxRecDepth 100000 in
set_option maxHeartbeats 400000 in
theorem Num_nat (n : Nat) (w : World) (hn : Hid (n < 18446744073709551616)) :
    Calls Try.prog 16 #[.int .u64 n] w fun e w' => e = .returned (.string (strOfNums (numF 9 n))) ∧ Below w.heap.size w w' := by
  go_enter Try.func16, Try.ntmps16
  go_wp2
  go_loopw [0, 3] (fun s0 s3 wr => ∃ (m : Nat) (xs : List Int) (k : Nat), Hid (m < 128 ^ (k + 1)) ∧ Hid (xs.length + k ≤ 9) ∧ s0 = .int .u64 m ∧ Hid (wr.ownsRow w.heap.size 5 1 s3 xs.length (xs.map (Value.int .u8))) ∧ Below w.heap.size w wr ∧ Hid (xs ++ numF k m = numF 9 n)) (fun s0 _ _ => (intOf s0).toNat)
  case atStart => exact ⟨n, [], 9, by have := hn.out; show n < 128^10; omega, by show _ ≤ _ ; simp, rfl, World.ownsRow_nil _ _ _ _, Below.refl _ _, rfl⟩
  case round =>
    obtain ⟨m, xs, k, hm, hl, rfl, hown, hb, hx⟩ := hrel
    have hB := hb.size
    by_cases hlt : m < 128
    · go_wp2_with (first
        | (at_builtin; refine wpList_append_map _ _ _ _ _ _ el_u8 _ _ _ _ _ hb hown hB rfl rfl rfl rfl rfl (by have := hl.out; omega) (by decide) ?_; intro v1 w1 hown1 hb1 hB1)
        | (refine wpList_string_own _ _ (xs ++ [(m : Int)]) _ _ _ Try.underlying9 _ _ el_u8 Try.underlying5 hown1.out rfl rfl rfl ?_))
      go_ret
      exact ⟨by rw [← hx.out, numF_lt _ _ hlt]; rfl, hb1⟩
    · have hm' : 128 ≤ m := by omega
      have hu : IntKind.u64.wrap ((m : Int) / 128) = ((m / 128 : Nat) : Int) := by
        have := hm.out
        have h2 : 128 ^ (k + 1) ≤ 128 ^ 10 := Nat.pow_le_pow_right (by decide) (by have := hl.out; omega)
        rw [IntKind.wrap_u64]; omega
      have hk : 0 < k := by
        rcases Nat.eq_zero_or_pos k with h | h
        · subst h; have := hm.out; simp at this; omega
        · exact h
      go_wp2_with (at_builtin; refine wpList_append_map _ _ _ _ _ _ el_u8 _ _ _ _ _ hb hown hB rfl rfl rfl rfl rfl (by have := hl.out; omega) (by decide) ?_; intro v1 w1 hown1 hb1 hB1)
      obtain ⟨k, rfl⟩ : ∃ j, k = j + 1 := ⟨k - 1, by omega⟩
      go_roundw
      case rel =>
        refine ⟨m / 128, xs ++ [((m % 128 + 128 : Nat) : Int)], k, ?_, ?_, by simp, by show World.ownsRow _ _ _ _ _ _ _; simpa using hown1.out, hb1, ?_⟩
        · have := hm.out; show _ < _; rw [Nat.pow_succ] at this; omega
        · have := hl.out; show _ ≤ _; simp; omega
        · show _ = _; rw [← hx.out, numF_ge _ _ hlt, List.append_assoc]; rfl
      case measure => simp [intOf]; omega

theorem Num_any (n : Int) (w : World) (hn : Hid (U64 n)) :
    Calls Try.prog 16 #[.int .u64 n] w fun e w' => e = .returned (.string (numStr n.toNat)) ∧ Below w.heap.size w w' := by
  obtain ⟨m, rfl⟩ := Int.eq_ofNat_of_zero_le hn.out.1
  exact Num_nat m w (by have := hn.out.2; show _ < _; omega)
end Go.Proofs.Ytjcdpmianmgiaaa
