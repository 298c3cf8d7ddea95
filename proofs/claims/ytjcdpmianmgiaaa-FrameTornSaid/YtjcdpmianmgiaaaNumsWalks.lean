/- The walks of NumsOne and NumsBack. -/
import Derived.Test.YtjcdpmianmgiaaaNumsLaws
import Derived.Test.YtjcdpmianmgiaaaNumsI
namespace Go.Proofs.Ytjcdpmianmgiaaa
open Go.RowKit

theorem rNum_ok (s : ByteArray) (h : (rNum s 0 0 maxU64).2.2 = 0) : (rNum s 0 0 maxU64).1 = (((rNum s 0 0 maxU64).1.toNat : Nat) : Int) ∧ numStr (rNum s 0 0 maxU64).1.toNat = s.extract 0 (rNum s 0 0 maxU64).2.1 ∧ (rNum s 0 0 maxU64).2.1 ≤ s.size := by
  unfold rNum at h ⊢
  rw [numC_max] at h ⊢
  have hf := dig_fits s 0 (Nat.zero_le _)
  by_cases h1 : (dig (s.data.toList.drop 0) 0 0).1 = 0
  · simp only [h1, if_true] at h ⊢
    refine ⟨by simp, ?_, hf⟩
    rw [Int.toNat_natCast]
    have := numStr_of_dig s 0 (dig (s.data.toList.drop 0) 0 0).2.1 (dig (s.data.toList.drop 0) 0 0).2.2 (by rw [← h1])
    exact this
  · simp only [h1, if_true, if_false] at h
theorem rRow_ok (s : ByteArray) (h : (rRow s 0 0 2000).2.2 = 0) : rowStr (rRow s 0 0 2000).1 = s.extract 0 (rRow s 0 0 2000).2.1 ∧ (rRow s 0 0 2000).2.1 ≤ s.size ∧ (rRow s 0 0 2000).1.size ≤ 2000 := by
  unfold rRow rowC takeC at h ⊢
  have hf := dig_fits s 0 (Nat.zero_le _)
  by_cases h1 : (dig (s.data.toList.drop 0) 0 0).1 = 0
  · have hn := numStr_of_dig s 0 (dig (s.data.toList.drop 0) 0 0).2.1 (dig (s.data.toList.drop 0) 0 0).2.2 (by rw [← h1])
    generalize dig (s.data.toList.drop 0) 0 0 = x at *
    obtain ⟨er, n, u⟩ := x
    simp only [] at h1 hn hf
    subst h1
    simp only [if_true] at h ⊢
    by_cases h2 : (2000 : Int) < 0 ∨ (2000 : Int) < (n : Int)
    · simp only [h2, if_true] at h
      rw [if_neg (show ¬ (4 : Int) = 0 by decide)] at h
      exact absurd h (show ¬ (4 : Int) = 0 by decide)
    · simp only [h2, if_false] at h ⊢
      have h3 : ¬ ((n : Int) < 0) := by omega
      simp only [h3, if_false] at h ⊢
      by_cases h4 : (s.size : Int) - ((0 + u : Nat) : Int) < (n : Int)
      · simp only [h4, if_true] at h
        rw [if_neg (show ¬ (2 : Int) = 0 by decide)] at h
        exact absurd h (show ¬ (2 : Int) = 0 by decide)
      · simp only [h4, if_false, if_true] at h ⊢
        rw [Int.toNat_natCast]
        simp only [Nat.zero_add] at *
        have hsz : (s.extract u (u + n)).size = n := by simp; omega
        refine ⟨?_, by omega, by rw [hsz]; omega⟩
        unfold rowStr
        rw [hsz, hn]
        apply ByteArray.ext
        apply Array.toList_inj.1
        simp only [ByteArray.data_append, Array.toList_append, Lib.extract_data, Nat.sub_zero, List.drop_zero]
        rw [show u + n - u = n by omega, ← List.take_add]
  · simp only [h1, if_true, if_false] at h

end Go.Proofs.Ytjcdpmianmgiaaa
