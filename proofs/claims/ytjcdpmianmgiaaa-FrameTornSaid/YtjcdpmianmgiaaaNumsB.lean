/- Zig, Zag, Int, Row of the program and of the reference. -/
import Derived.Test.YtjcdpmianmgiaaaNumsA
import Derived.Test.YtjcdpmianmgiaaaPlain
namespace Go.Proofs.Ytjcdpmianmgiaaa
open Go.RowKit

theorem ret_int {k : IntKind} {a b : Int} (h : a = b) : Ending.returned (.int k a) = .returned (.int k b) := by rw [h]

def intStr (n : Int) : ByteArray := numStr (zig n).toNat
def rowStr (s : ByteArray) : ByteArray := numStr s.size ++ s
theorem intStr_size (n : Int) : (intStr n).size ≤ 10 := numStr_size _

theorem wrap_size (s : ByteArray) (hs : s.size ≤ 1099511627776) : IntKind.u64.wrap (s.size : Int) = (s.size : Int) := by rw [IntKind.wrap_u64]; omega

set_option maxRecDepth 100000 in
theorem Row_any (s : ByteArray) (w : World) (hs : Hid (s.size ≤ 1099511627776)) :
    Calls Try.prog 12 #[.string s] w fun e w' => e = .returned (.string (rowStr s)) ∧ Below w.heap.size w w' := by
  have e1 := Lib.hid (wrap_size s hs.out)
  go_enter Try.func12, Try.ntmps12
  go_wp2_with fail
  rw [e1.out]
  refine (Num_any _ _ (by have := hs.out; show U64 _; unfold U64; omega)).mono ?_; rintro e w' ⟨rfl, hb⟩
  rw [Int.toNat_natCast]
  have h1 := numStr_size s.size
  have h2 : s.size ≤ 1099511627776 := hs.out
  go_wp2_with fail
  go_ret
  exact ⟨rfl, hb⟩

theorem conv1 (w : World) (x : Int) : (convert 28 9 (.slice (some ⟨w.heap.size, 0, none⟩) 1 1)).run Try.prog (w.alloc (.cells #[.int .u8 x] 5)) = .ok (.string (strOfNums [x])) (w.alloc (.cells #[.int .u8 x] 5)) :=
  run_string_one w x _ _ _ Try.underlying9 Try.underlying28 Try.underlying5

theorem conv1d (w : World) (x : Int) : (convert 28 9 (.slice (some ⟨w.heap.size, 0, none⟩) 1 1)).run Try.prog (w.alloc (.cells #[.int .u8 x] 5)).drew = .ok (.string (strOfNums [x])) (w.alloc (.cells #[.int .u8 x] 5)).drew :=
  run_string_at _ x _ _ _ Try.underlying9 Try.underlying28 Try.underlying5 _ (World.cell?_alloc_at _ _ _ _ rfl)

theorem numF_size (k n : Nat) (h : k ≤ 9) : (strOfNums (numF k n)).size ≤ 10 := by rw [strOfNums_size]; have := numF_len k n; omega

theorem cell_u8 {w w' : World} {x : Int} {e : TypeId} (hb : Below (w.alloc (.cells #[.int .u8 x] e)).drew.heap.size (w.alloc (.cells #[.int .u8 x] e)).drew w') : w'.cell? ⟨w.heap.size, 0, none⟩ = some (.int .u8 x) :=
  (hb.cell (p := ⟨w.heap.size, 0, none⟩) (by simp)).trans (World.cell?_alloc_at _ _ _ _ rfl)

set_option maxRecDepth 100000 in
theorem rNum_nat (k : Nat) : ∀ (n : Nat) (w : World) (_ : Hid (n < 128 ^ (k + 1) ∧ k ≤ 9)),
    Calls Try.prog 13 #[.int .u64 n] w fun e w' => e = .returned (.string (strOfNums (numF k n))) ∧ Below w.heap.size w w' := by
  have hc := conv1
  have hcd := conv1d
  induction k with
  | zero =>
    intro n w hn
    have h1 : n < 128 := by have := hn.out.1; simpa using this
    go_enter Try.func13, Try.ntmps13
    go_wp2_with fail
    go_ret
    exact ⟨by rw [numF_lt _ _ h1]; rfl, (Below.refl _ _).alloc (Nat.le_refl _) _⟩
  | succ k ih =>
    intro n w hn
    by_cases h1 : n < 128
    · clear ih
      go_enter Try.func13, Try.ntmps13
      go_wp2_with fail
      go_ret
      exact ⟨by rw [numF_lt _ _ h1]; rfl, (Below.refl _ _).alloc (Nat.le_refl _) _⟩
    · have IH := Lib.hid ih
      clear ih
      have hdiv : Hid (n / 128 < 128 ^ (k + 1) ∧ k ≤ 9) := by
        have := hn.out; rw [Nat.pow_succ] at this; exact ⟨by omega, by omega⟩
      have b1 : (n : Int) ≤ 2000000000000000000000 := by
        have := hn.out.1
        have h2 : 128 ^ (k + 1 + 1) ≤ 128 ^ 10 := Nat.pow_le_pow_right (by decide) (by have := hn.out.2; omega)
        omega
      have z1 : ((n : Int)).tmod 128 = (n : Int) % 128 := Int.tmod_eq_emod_of_nonneg (by omega)
      have z2 : IntKind.u8.wrap ((n : Int) % 128) = (n : Int) % 128 := by rw [IntKind.wrap_u8]; omega
      have z3 : IntKind.u8.wrap ((n : Int) % 128 + 128) = (n : Int) % 128 + 128 := by rw [IntKind.wrap_u8]; omega
      have z4 : IntKind.u64.wrap ((n : Int) / 128) = (n : Int) / 128 := by
        have := hn.out.1
        have h2 : 128 ^ (k + 1 + 1) ≤ 128 ^ 10 := Nat.pow_le_pow_right (by decide) (by have := hn.out.2; omega)
        rw [IntKind.wrap_u64]; omega
      have hadd : ¬ (9223372036854775807 < (strOfNums [(n : Int) % 128 + 128]).size + (strOfNums (numF k (n / 128))).size) := by
        have := numF_size k (n / 128) hdiv.out.2; rw [strOfNums_size]; simp; omega
      clear b1
      go_enter Try.func13, Try.ntmps13
      go_wp2_with fail
      go_region_with (go_at_call 13; refine (IH.out (n / 128) _ hdiv).mono ?_; rintro e w' ⟨rfl, hb⟩; try have hcw := run_string_at (P := Try.prog) w' ((n : Int) % 128 + 128) _ _ _ Try.underlying9 Try.underlying28 Try.underlying5 w.heap.size (cell_u8 hb))
      all_goals go_wp2
      all_goals go_ret
      all_goals
        refine ⟨?_, ?_⟩
        · have e1 : strOfNums (numF (k + 1) n) = strOfNums [(n : Int) % 128 + 128] ++ strOfNums (numF k (n / 128)) := by
            rw [numF_ge _ _ h1, ← strOfNums_append]
            simp
          rw [e1]; rfl
        · first
            | exact below_to (((Below.refl _ _).alloc (Nat.le_refl _) _).drew) hb
            | exact (below_to ((Below.refl _ _).drew) hb).alloc hb.size _
end Go.Proofs.Ytjcdpmianmgiaaa
