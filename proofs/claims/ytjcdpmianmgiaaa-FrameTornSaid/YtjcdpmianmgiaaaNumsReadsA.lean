/- NumsReads: the walk. Whatever is done with a reader of any bytes: each answer, each fault, and how much is left, are the document's. -/
import Derived.Test.YtjcdpmianmgiaaaNumsWalks
namespace Go.Proofs.Ytjcdpmianmgiaaa
open Go.RowKit

theorem wrap_U64 (x : Int) : U64 (IntKind.u64.wrap x) := by unfold U64; rw [IntKind.wrap_u64]; omega
theorem takeC_p (s : ByteArray) (p : Nat) (n : Int) (hp : p ≤ s.size) : (takeC s p n).2.2 ≤ s.size := by
  unfold takeC
  split
  · exact hp
  · split
    · exact hp
    · simp only []; omega
theorem rNum_p (s : ByteArray) (p : Nat) (f : Int) (m : Nat) (hp : p ≤ s.size) : (rNum s p f m).2.1 ≤ s.size := by
  unfold rNum
  have := dig_fits s p hp
  split
  · split
    · simp only [numC_used]; exact this
    · exact hp
  · exact hp
theorem rInt_p (s : ByteArray) (p : Nat) (f : Int) (hp : p ≤ s.size) : (rInt s p f).2.1 ≤ s.size := by
  unfold rInt
  have := dig_fits s p hp
  split
  · split
    · exact this
    · exact hp
  · exact hp
theorem rTake_p (s : ByteArray) (p : Nat) (f n : Int) (hp : p ≤ s.size) : (rTake s p f n).2.1 ≤ s.size := by
  unfold rTake
  split
  · split
    · exact takeC_p s p n hp
    · exact hp
  · exact hp
theorem rRow_p (s : ByteArray) (p : Nat) (f n : Int) (hp : p ≤ s.size) : (rRow s p f n).2.1 ≤ s.size := by
  unfold rRow rowC
  have h := dig_fits s p hp
  repeat' split
  all_goals first | exact hp | exact h | exact takeC_p s _ _ h

theorem Rdr.other {w w' : World} {g g' : Nat} {s : ByteArray} {p : Nat} {f : Int} (h : Rdr w g' s p f) (hG : w.grownBy w' (some g)) (hne : g' ≠ g) : Rdr w' g' s p f := (hG.block g' h.lt (fun e => hne (by injection e))).trans h

end Go.Proofs.Ytjcdpmianmgiaaa
