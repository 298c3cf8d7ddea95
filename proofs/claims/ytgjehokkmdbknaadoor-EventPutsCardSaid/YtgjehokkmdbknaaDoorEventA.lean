/- event: put, Put. -/
import Derived.Test.YtgjehokkmdbknaaDoorNumsB
namespace Go.Proofs.YtgjehokkmdbknaaDoor
open Go.RowKit

/-- So many numbers, one behind the other. -/
def putStr (x : Nat → Int) : Nat → ByteArray
  | 0 => ⟨#[]⟩
  | n + 1 => putStr x n ++ intStr (x n)
theorem putStr_size (x : Nat → Int) (n : Nat) : (putStr x n).size ≤ 10 * n := by
  induction n with
  | zero => exact Nat.le_refl _
  | succ n ih => unfold putStr; rw [ByteArray.size_append]; have := intStr_size (x n); omega

set_option maxRecDepth 100000 in
set_option maxHeartbeats 400000 in
theorem put_any (A : Option Addr) (n c : Nat) (x : Nat → Int) (w : World) (hn : Hid (n ≤ 20))
    (h : Hid (∀ i, i < n → ∃ b o, A = some ⟨b, o, none⟩ ∧ b < w.heap.size ∧ w.cell? ⟨b, o + i, none⟩ = some (.int .i64 (x i)) ∧ I64 (x i))) :
    Calls Tryd.prog 45 #[.slice A n c] w fun e w' => e = .returned (.string (putStr x n)) ∧ Below w.heap.size w w' := by
  have hn2 := hn.out
  go_enter Tryd.func45, Tryd.ntmps45
  go_wp2_with fail
  go_loopw [3, 8] (fun sv iv wr => ∃ i : Nat, iv = .int .i64 i ∧ sv = .string (putStr x i) ∧ Hid (i ≤ n) ∧ Hid (Below w.heap.size w wr)) (fun _ iv _ => n - (intOf iv).toNat)
  case atStart => exact ⟨0, rfl, rfl, Nat.zero_le _, Below.refl _ _⟩
  case round =>
    obtain ⟨i, rfl, rfl, hi, HB⟩ := hrel
    have hi2 := hi.out
    by_cases hlt : i < n
    · obtain ⟨b, o, rfl, hb, hc, hx⟩ := h.out i hlt
      have cc := (HB.out.cell (p := ⟨b, o + i, none⟩) hb).trans hc
      have HX := Lib.hid hx
      have hz := putStr_size x i
      have hz2 := intStr_size (x i)
      have hcat : putStr x i ++ intStr (x i) = putStr x (i + 1) := rfl
      generalize x i = xi at *
      generalize hp2 : putStr x (i + 1) = p2 at *
      generalize putStr x i = p1 at *
      have HC := Lib.hid hcat; clear hcat
      have HP2 := Lib.hid hp2; clear hp2
      clear hx hc
      have hw : wrap64 ((i : Int) + 1) = ((i + 1 : Nat) : Int) := by simp only [wrap64]; omega
      have HW := Lib.hid hw; clear hw
      go_wp2_with fail
      refine (Int_any _ _ HX).mono ?_
      rintro e w1 ⟨rfl, hb1⟩
      have HB1 := Lib.hid (below_to HB.out hb1); clear hb1
      go_wp2_with fail
      rw [HC.out]
      go_roundw
      case rel => exact ⟨i + 1, by first | rfl | (rw [← HW.out]; rfl), by rw [HP2.out], by show _ ≤ _; omega, HB1.out⟩
      case measure => simp [intOf]; omega
    · obtain rfl : i = n := by omega
      go_wp2_with fail
      go_ret
      exact ⟨rfl, HB.out⟩

set_option maxRecDepth 100000 in
set_option maxHeartbeats 400000 in
theorem Put_any (x : Nat → Int) (w : World) (hx : Hid (∀ i, i < 7 → I64 (x i))) :
    Calls Tryd.prog 25 #[.agg #[.int .i64 (x 0), .int .i64 (x 1), .int .i64 (x 2), .int .i64 (x 3), .int .i64 (x 4), .int .i64 (x 5), .int .i64 (x 6)]] w fun e w' => e = .returned (.string (putStr x 7)) ∧ Below w.heap.size w w' := by
  go_enter Tryd.func25, Tryd.ntmps25
  go_wp2_with fail
  have hbase : Below w.heap.size w ((w.alloc (.cells #[.int .i64 (x 0), .int .i64 (x 1), .int .i64 (x 2), .int .i64 (x 3), .int .i64 (x 4), .int .i64 (x 5), .int .i64 (x 6)] 41)).alloc (.cells #[.int .i64 (x 0), .int .i64 (x 1), .int .i64 (x 2), .int .i64 (x 3), .int .i64 (x 4), .int .i64 (x 5), .int .i64 (x 6)] 2)) := ((Below.refl _ w).alloc (Nat.le_refl _) _).alloc (by simp) _
  have HB := Lib.hid hbase; clear hbase
  refine (put_any _ 7 7 x _ (by show (7 : Nat) ≤ 20; omega) ?_).mono ?_
  · intro i hi
    refine ⟨_, 0, rfl, by simp, ?_, hx.out i hi⟩
    have hc : ∀ v, (#[Value.int .i64 (x 0), .int .i64 (x 1), .int .i64 (x 2), .int .i64 (x 3), .int .i64 (x 4), .int .i64 (x 5), .int .i64 (x 6)] : Array Value)[i]? = some v → ((w.alloc (.cells #[.int .i64 (x 0), .int .i64 (x 1), .int .i64 (x 2), .int .i64 (x 3), .int .i64 (x 4), .int .i64 (x 5), .int .i64 (x 6)] 41)).alloc (.cells #[.int .i64 (x 0), .int .i64 (x 1), .int .i64 (x 2), .int .i64 (x 3), .int .i64 (x 4), .int .i64 (x 5), .int .i64 (x 6)] 2)).cell? ⟨w.heap.size + 1, 0 + i, none⟩ = some v := by
      intro v hv
      rw [World.cell?_alloc_at _ _ _ _ (by simp)]
      simpa using hv
    refine hc _ ?_
    match i, hi with
    | 0, _ => rfl
    | 1, _ => rfl
    | 2, _ => rfl
    | 3, _ => rfl
    | 4, _ => rfl
    | 5, _ => rfl
    | 6, _ => rfl
  · rintro e w1 ⟨rfl, hb1⟩
    have HB1 := Lib.hid (below_to HB.out hb1); clear hb1
    go_wp2_with fail
    go_ret
    exact ⟨rfl, HB1.out⟩
end Go.Proofs.YtgjehokkmdbknaaDoor
