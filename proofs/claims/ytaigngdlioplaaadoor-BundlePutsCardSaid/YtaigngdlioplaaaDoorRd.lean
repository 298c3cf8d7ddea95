/- Reading, plain: what is read well is what stands there; what was written is read. -/
import Derived.Test.YtaigngdlioplaaaDoorNumsLaws
namespace Go.Proofs.YtaigngdlioplaaaDoor
open Go.RowKit

theorem drop_take_join (l : List UInt8) (a b c : Nat) (h1 : a ≤ b) (h2 : b ≤ c) : (l.drop a).take (b - a) ++ (l.drop b).take (c - b) = (l.drop a).take (c - a) := by
  rw [show c - a = (b - a) + (c - b) by omega, List.take_add, List.drop_drop, show a + (b - a) = b by omega]
theorem ext_join (s : ByteArray) (a b c : Nat) (h1 : a ≤ b) (h2 : b ≤ c) : s.extract a b ++ s.extract b c = s.extract a c := by
  apply ByteArray.ext
  apply Array.toList_inj.1
  simp only [ByteArray.data_append, Array.toList_append, Lib.extract_data]
  exact drop_take_join _ a b c h1 h2
theorem extract_all (s : ByteArray) : s.extract 0 s.size = s := by
  apply ByteArray.ext
  apply Array.toList_inj.1
  rw [Lib.extract_data, List.drop_zero, List.take_of_length_le (by simp)]

/-- A number that is read well. -/
theorem rNum_well (s : ByteArray) (p : Nat) (f : Int) (most : Nat) (hp : p ≤ s.size) (h : (rNum s p f most).2.2 = 0) :
    f = 0 ∧ 0 ≤ (rNum s p f most).1 ∧ (rNum s p f most).1 ≤ most ∧ p ≤ (rNum s p f most).2.1 ∧ (rNum s p f most).2.1 ≤ s.size ∧ numStr (rNum s p f most).1.toNat = s.extract p (rNum s p f most).2.1 := by
  have hf := dig_fits s p hp
  unfold rNum at h ⊢
  by_cases hz : f = 0
  · subst hz
    simp only [if_true] at h ⊢
    unfold numC at h ⊢
    have hn := numStr_of_dig s p (dig (s.data.toList.drop p) 0 0).2.1 (dig (s.data.toList.drop p) 0 0).2.2
    generalize dig (s.data.toList.drop p) 0 0 = x at *
    obtain ⟨er, n, u⟩ := x
    simp only [] at h hn hf ⊢
    by_cases h1 : er = 0
    · subst h1
      by_cases h2 : most < n
      · simp [h2] at h
      · simp only [h2, and_false, if_false, if_true] at h ⊢
        refine ⟨trivial, by omega, by omega, by omega, by omega, ?_⟩
        rw [Int.toNat_natCast]
        exact hn rfl
    · simp [h1] at h
  · simp only [hz, if_false] at h
/-- A row that is read well. -/
theorem rRow_well (s : ByteArray) (p : Nat) (f : Int) (most : Int) (hp : p ≤ s.size) (h : (rRow s p f most).2.2 = 0) :
    f = 0 ∧ ((rRow s p f most).1.size : Int) ≤ most ∧ p ≤ (rRow s p f most).2.1 ∧ (rRow s p f most).2.1 ≤ s.size ∧ rowStr (rRow s p f most).1 = s.extract p (rRow s p f most).2.1 := by
  have hf := dig_fits s p hp
  unfold rRow at h ⊢
  by_cases hz : f = 0
  · subst hz
    simp only [if_true] at h ⊢
    unfold rowC takeC at h ⊢
    have hn := numStr_of_dig s p (dig (s.data.toList.drop p) 0 0).2.1 (dig (s.data.toList.drop p) 0 0).2.2
    generalize dig (s.data.toList.drop p) 0 0 = x at *
    obtain ⟨er, n, u⟩ := x
    simp only [] at h hn hf ⊢
    by_cases h1 : er = 0
    · subst h1
      simp only [if_true] at h ⊢
      by_cases h2 : most < 0 ∨ most < (n : Int)
      · simp [h2] at h
      · simp only [h2, if_false] at h ⊢
        have h3 : ¬ ((n : Int) < 0) := by omega
        simp only [h3, if_false] at h ⊢
        by_cases h4 : (s.size : Int) - ((p + u : Nat) : Int) < (n : Int)
        · simp only [h4, if_true] at h
          rw [if_neg (show ¬ (2 : Int) = 0 by decide)] at h
          exact absurd h (show ¬ (2 : Int) = 0 by decide)
        · simp only [h4, if_false, if_true] at h ⊢
          rw [Int.toNat_natCast]
          have hsz : (s.extract (p + u) (p + u + n)).size = n := by simp; omega
          refine ⟨trivial, by omega, by omega, by omega, ?_⟩
          unfold rowStr
          rw [hsz, hn rfl, ext_join s p (p + u) (p + u + n) (by omega) (by omega)]
    · simp [h1] at h
  · simp only [hz, if_false] at h
theorem rNum_in (s : ByteArray) (p n : Nat) (r : List UInt8) (most : Nat) (hm : n ≤ most) (hn : n < 18446744073709551616) (h : s.data.toList.drop p = (numStr n).data.toList ++ r) : rNum s p 0 most = (((n : Nat) : Int), p + (numStr n).size, 0) := by
  unfold rNum numC
  rw [h, dig_numStr n hn]
  rw [if_pos rfl, if_neg (show ¬ ((0 : Int) = 0 ∧ most < n) by omega), if_pos rfl]
theorem rNum_p_le (s : ByteArray) (p : Nat) (f : Int) (most : Nat) (hp : p ≤ s.size) : (rNum s p f most).2.1 ≤ s.size := by
  by_cases h : (rNum s p f most).2.2 = 0
  · exact (rNum_well s p f most hp h).2.2.2.2.1
  · unfold rNum at h ⊢
    split
    · split
      · rename_i h1 h2; simp [h1, h2] at h
      · exact hp
    · exact hp
theorem rNum_val (s : ByteArray) (p : Nat) (f : Int) (most : Nat) (hp : p ≤ s.size) : 0 ≤ (rNum s p f most).1 ∧ (rNum s p f most).1 ≤ most := by
  by_cases h : (rNum s p f most).2.2 = 0
  · have := rNum_well s p f most hp h
    exact ⟨this.2.1, this.2.2.1⟩
  · unfold rNum at h ⊢
    split
    · split
      · rename_i h1 h2; simp [h1, h2] at h
      · exact ⟨Int.le_refl _, by show (0 : Int) ≤ _; omega⟩
    · exact ⟨Int.le_refl _, by show (0 : Int) ≤ _; omega⟩
theorem rRow_p_le (s : ByteArray) (p : Nat) (f : Int) (most : Int) (hp : p ≤ s.size) : (rRow s p f most).2.1 ≤ s.size := by
  by_cases h : (rRow s p f most).2.2 = 0
  · exact (rRow_well s p f most hp h).2.2.2.1
  · unfold rRow at h ⊢
    split
    · split
      · rename_i h1 h2; simp [h1, h2] at h
      · exact hp
    · exact hp
theorem rRow_size (s : ByteArray) (p : Nat) (f : Int) (most : Int) (hp : p ≤ s.size) (hm : 0 ≤ most) : ((rRow s p f most).1.size : Int) ≤ most := by
  by_cases h : (rRow s p f most).2.2 = 0
  · exact (rRow_well s p f most hp h).2.1
  · unfold rRow at h ⊢
    split
    · split
      · rename_i h1 h2; simp [h1, h2] at h
      · exact hm
    · exact hm
end Go.Proofs.YtaigngdlioplaaaDoor
