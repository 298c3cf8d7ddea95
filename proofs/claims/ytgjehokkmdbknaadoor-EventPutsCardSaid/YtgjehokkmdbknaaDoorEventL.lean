/- event: the plain laws. What is put is got as it was; what is got is put as it was. No program. -/
import Derived.Test.YtgjehokkmdbknaaDoorEventE
namespace Go.Proofs.YtgjehokkmdbknaaDoor
open Go.RowKit

theorem putStr_list (x : Nat → Int) (n : Nat) : (putStr x (n + 1)).data.toList = (putStr x n).data.toList ++ (intStr (x n)).data.toList := by
  show (putStr x n ++ intStr (x n)).data.toList = _
  simp [ByteArray.data_append]
theorem putStr_head (x : Nat → Int) (i : Nat) : ∀ k, ∃ r, (putStr x (i + k)).data.toList = (putStr x i).data.toList ++ r
  | 0 => ⟨[], by simp⟩
  | k + 1 => by
    obtain ⟨r, hr⟩ := putStr_head x i k
    refine ⟨r ++ (intStr (x (i + k))).data.toList, ?_⟩
    rw [← Nat.add_assoc, putStr_list, hr, List.append_assoc]
theorem putStr_drop (x : Nat → Int) (i n : Nat) (h : i < n) : ∃ r, (putStr x n).data.toList.drop (putStr x i).size = (intStr (x i)).data.toList ++ r := by
  obtain ⟨r, hr⟩ := putStr_head x (i + 1) (n - (i + 1))
  rw [show i + 1 + (n - (i + 1)) = n by omega, putStr_list] at hr
  exact ⟨r, by rw [hr, ← list_len, List.append_assoc, List.drop_left]⟩
theorem putStr_step (x : Nat → Int) (i : Nat) : (putStr x (i + 1)).size = (putStr x i).size + (intStr (x i)).size := by
  rw [← list_len, putStr_list, List.length_append, list_len, list_len]

theorem getC_put (x : Nat → Int) (n : Nat) (hx : ∀ i, i < n → I64 (x i)) : ∀ i, i ≤ n → getC (putStr x n) i = ((putStr x i).size, 0)
  | 0, _ => rfl
  | i + 1, h => by
    have ih := getC_put x n hx i (by omega)
    obtain ⟨r, hr⟩ := putStr_drop x i n (by omega)
    have ha := rInt_at (putStr x n) (putStr x i).size (x i) r (hx i (by omega)) hr
    show ((rInt _ (getC _ i).1 (getC _ i).2).2.1, (rInt _ (getC _ i).1 (getC _ i).2).2.2) = _
    rw [ih]
    simp only []
    rw [ha, putStr_step]
theorem getV_put (x : Nat → Int) (n : Nat) (hx : ∀ i, i < n → I64 (x i)) (i : Nat) (h : i < n) : getV (putStr x n) i = x i := by
  obtain ⟨r, hr⟩ := putStr_drop x i n h
  have ha := rInt_at (putStr x n) (putStr x i).size (x i) r (hx i h) hr
  unfold getV
  rw [getC_put x n hx i (by omega)]
  simp only []
  rw [ha]
theorem getE_put (x : Nat → Int) (n : Nat) (hx : ∀ i, i < n → I64 (x i)) : getE (putStr x n) n = 0 := by
  unfold getE
  rw [getC_put x n hx n (Nat.le_refl _), if_neg (by simp)]
theorem evV_put (x : Nat → Int) (n : Nat) (hx : ∀ i, i < n → I64 (x i)) (i : Nat) (h : i < n) : evV (putStr x n) n i = x i := by
  unfold evV
  rw [if_pos (getE_put x n hx), getV_put x n hx i h]

theorem rInt_ok (s : ByteArray) (p : Nat) (f : Int) (h : (rInt s p f).2.2 = 0) : f = 0 ∧ p ≤ (rInt s p f).2.1 ∧ intStr (rInt s p f).1 = s.extract p (rInt s p f).2.1 := by
  unfold rInt at h ⊢
  by_cases h0 : f = 0
  · subst h0
    by_cases h1 : (dig (s.data.toList.drop p) 0 0).1 = 0
    · have hu := dig_U64 (s.data.toList.drop p)
      simp only [h1, if_true] at h ⊢
      refine ⟨trivial, by omega, ?_⟩
      unfold intStr
      rw [zig_zag _ hu, Int.toNat_natCast]
      exact numStr_of_dig s p (dig (s.data.toList.drop p) 0 0).2.1 (dig (s.data.toList.drop p) 0 0).2.2 (by rw [← h1])
    · simp only [h1, if_true, if_false] at h
  · simp only [h0, if_false] at h
    

theorem extract_join (s : ByteArray) (p q : Nat) (h : p ≤ q) : s.extract 0 p ++ s.extract p q = s.extract 0 q := by
  apply ByteArray.ext
  apply Array.toList_inj.1
  simp only [ByteArray.data_append, Array.toList_append, Lib.extract_data, Nat.sub_zero, List.drop_zero]
  rw [← List.take_add]
  congr 1
  omega
theorem put_got (s : ByteArray) : ∀ i, (getC s i).2 = 0 → putStr (getV s) i = s.extract 0 (getC s i).1
  | 0, _ => by
    apply ByteArray.ext
    apply Array.toList_inj.1
    simp [putStr, getC]
  | i + 1, h => by
    obtain ⟨h0, h1, h2⟩ := rInt_ok s (getC s i).1 (getC s i).2 h
    show putStr (getV s) i ++ intStr (getV s i) = _
    rw [put_got s i h0]
    unfold getV
    rw [h2]
    exact extract_join s _ _ h1
theorem put_get (s : ByteArray) (n : Nat) (h : getE s n = 0) : putStr (getV s) n = s := by
  have hp := getC_p s n
  unfold getE rFail at h
  by_cases h1 : (getC s n).1 < s.size
  · rw [if_pos h1] at h
    by_cases h2 : (getC s n).2 = 0
    · rw [if_pos h2] at h; exact absurd h (by decide)
    · rw [if_neg h2] at h; exact absurd h h2
  · rw [if_neg h1] at h
    rw [put_got s n h, show (getC s n).1 = s.size by omega]
    apply ByteArray.ext
    apply Array.toList_inj.1
    rw [Lib.extract_data]
    simp only [Nat.sub_zero, List.drop_zero]
    exact List.take_of_length_le (by rw [list_len]; exact Nat.le_refl _)
theorem putStr_congr (x y : Nat → Int) : ∀ n, (∀ i, i < n → x i = y i) → putStr x n = putStr y n
  | 0, _ => rfl
  | n + 1, h => by
    show putStr x n ++ _ = putStr y n ++ _
    rw [putStr_congr x y n (fun i hi => h i (by omega)), h n (by omega)]
theorem put_ev (s : ByteArray) (n : Nat) (h : getE s n = 0) : putStr (evV s n) n = s := by
  rw [← put_get s n h]
  rw [put_get s n h]
  rw [putStr_congr (evV s n) (getV s) n (fun i _ => if_pos h)]
  exact put_get s n h
theorem rInt_I64 (s : ByteArray) (p : Nat) (f : Int) : I64 (rInt s p f).1 := by
  have h := zag_i64 _ (dig_U64 (s.data.toList.drop p))
  have h0 : I64 0 := by unfold I64; omega
  unfold rInt
  repeat' split
  all_goals first | exact h | exact h0
theorem getV_I64 (s : ByteArray) (i : Nat) : I64 (getV s i) := rInt_I64 s _ _
theorem evV_I64 (s : ByteArray) (n i : Nat) : I64 (evV s n i) := by
  unfold evV
  split
  · exact getV_I64 s i
  · unfold I64; omega
end Go.Proofs.YtgjehokkmdbknaaDoor
