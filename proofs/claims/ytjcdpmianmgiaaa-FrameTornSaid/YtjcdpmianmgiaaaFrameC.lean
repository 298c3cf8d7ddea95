/- The frames that stand one behind the other; the iterator over them. -/
import Derived.Test.YtjcdpmianmgiaaaFrameB
import Derived.Test.YtjcdpmianmgiaaaRange
import Derived.Shelf.Abstract
import Derived.OwnWalkIn
import Derived.TacticsInMore
import Derived.LoopNIn
import Derived.LoopIn
namespace Go.Proofs.Ytjcdpmianmgiaaa
open Go.RowKit Go.Shelf
attribute [local go_sem] Oper.semAt_some

theorem nextD_ok (s : ByteArray) (r : Int × Nat × Int) (h0 : 0 ≤ r.1) (h : (nextD s r).2.2 = 0) : 0 < (nextD s r).2.1 ∧ ((nextD s r).2.1 : Int) ≤ s.size ∧ (nextD s r).1.size < (nextD s r).2.1 := by
  unfold nextD at h ⊢
  split at h
  · rename_i h1; exact absurd h h1
  · split at h
    · exact absurd h (by decide)
    · split at h
      · exact absurd h (by decide)
      · split at h
        · rename_i h1 h2 h3 h4
          rw [if_neg h1, if_neg h2, if_neg h3, if_pos h4]
          simp only [ByteArray.size_extract]
          omega
        · exact absurd h (by decide)

theorem nextP_ok (s : ByteArray) (h : (nextP s).2.2 = 0) : 0 < (nextP s).2.1 ∧ (nextP s).2.1 ≤ s.size ∧ (nextP s).1.size < (nextP s).2.1 := by
  by_cases h0 : s.size = 0
  · have hp : nextP s = (⟨#[]⟩, 0, 7) := if_pos h0
    rw [hp] at h
    exact absurd h (by decide)
  · have := nextD_ok s (nextN s) (rNum_le s 0 0 65536).1 (by rw [← nextP_eq s h0]; exact h)
    rw [← nextP_eq s h0] at this
    omega

def restOf (s : ByteArray) : ByteArray := s.extract (nextP s).2.1 s.size
theorem restOf_size (s : ByteArray) : (restOf s).size = s.size - (nextP s).2.1 := by unfold restOf; simp

def framesL : Nat → ByteArray → List (ByteArray × Nat)
  | 0, _ => []
  | k + 1, s => if (nextP s).2.2 = 0 then ((nextP s).1, (nextP s).2.1) :: framesL k (restOf s) else []
def framesOf (s : ByteArray) : List (ByteArray × Nat) := framesL (s.size + 1) s

theorem framesL_more (k : Nat) : ∀ (s : ByteArray) (j : Nat), s.size < k → k ≤ j → framesL j s = framesL k s := by
  induction k with
  | zero => intro s j h _; omega
  | succ k ih =>
    intro s j h hj
    obtain ⟨j, rfl⟩ : ∃ i, j = i + 1 := ⟨j - 1, by omega⟩
    unfold framesL
    by_cases hz : (nextP s).2.2 = 0
    · have h1 := nextP_ok s hz
      rw [if_pos hz, if_pos hz, ih (restOf s) j (by rw [restOf_size]; omega) (by omega)]
    · rw [if_neg hz, if_neg hz]

theorem framesOf_ok (s : ByteArray) (h : (nextP s).2.2 = 0) : framesOf s = ((nextP s).1, (nextP s).2.1) :: framesOf (restOf s) := by
  have h1 := nextP_ok s h
  have h2 := restOf_size s
  unfold framesOf
  rw [show framesL (s.size + 1) s = if (nextP s).2.2 = 0 then ((nextP s).1, (nextP s).2.1) :: framesL s.size (restOf s) else [] from rfl, if_pos h,
    framesL_more ((restOf s).size + 1) (restOf s) s.size (by omega) (by omega)]
theorem framesOf_bad (s : ByteArray) (h : ¬ (nextP s).2.2 = 0) : framesOf s = [] := by
  unfold framesOf framesL
  rw [if_neg h]

def sumOf (l : List (ByteArray × Nat)) : Nat := (l.map (·.2)).sum
theorem sumOf_le (k : Nat) : ∀ s : ByteArray, s.size < k → sumOf (framesOf s) ≤ s.size ∧ (framesOf s).length ≤ s.size := by
  induction k with
  | zero => intro s h; omega
  | succ k ih =>
    intro s hk
    by_cases h : (nextP s).2.2 = 0
    · have h1 := nextP_ok s h
      have h2 := restOf_size s
      have h3 := ih (restOf s) (by omega)
      rw [framesOf_ok s h]
      unfold sumOf at h3 ⊢
      simp only [List.map_cons, List.sum_cons, List.length_cons]
      omega
    · rw [framesOf_bad s h]
      unfold sumOf
      simp

def leftS (B : Nat) (w : World) : Nat := match w.cell? ⟨B, 0, none⟩ with
  | some (.string s) => s.size
  | _ => 0
theorem leftS_eq {B : Nat} {w : World} {t : TypeId} {s : ByteArray} (h : Boxed w B t (.string s)) : leftS B w = s.size := by unfold leftS; rw [h.cell]

set_option maxRecDepth 100000 in
set_option maxHeartbeats 1000000 in
theorem frames1_in (l Bs : Nat) (s0 : ByteArray) (hs0 : Hid (s0.size ≤ 1099511627776)) (J : List (ByteArray × Nat) → World → Prop) (W : World)
    (hJ : ∀ pre A B, J pre A → A.grownBy B (some Bs) → J pre B)
    (hY : ∀ pre x W1, J pre W1 → pre ++ [x] <+: framesOf s0 → YieldAt Fence.wide 1 Try.prog l #[.string x.1, .int .i64 (x.2 : Int)] W1 fun e W' => e = .returned (.bool true) ∧ J (pre ++ [x]) W' ∧ W'.heap[Bs]? = W1.heap[Bs]?)
    (hB : Boxed W Bs 9 (.string s0)) (h0 : J [] W) :
    CallsIn Fence.wide 2 Try.prog 14 #[.func (.yield l) #[] #[], .pointer (some ⟨Bs, 0, none⟩)] W fun e W' => (∃ v, e = .returned v) ∧ J (framesOf s0) W' := by
  refine callsIn_of_wp Try.func14 rfl trivial ?_ rfl
  simp only [Try.ntmps14, List.size_toArray, List.length_cons, List.length_nil, Nat.reduceAdd, Nat.reduceSub, Array.replicate_succ, Array.replicate_zero, List.push_toArray, List.append_toArray, List.nil_append, List.cons_append]
  gi_wp2
  gi_loopw [3] (fun _ wr => ∃ (pre : List (ByteArray × Nat)) (s : ByteArray), Hid (s.size ≤ 1099511627776) ∧ Hid (framesOf s0 = pre ++ framesOf s) ∧ Hid (Boxed wr Bs 9 (.string s)) ∧ Hid (J pre wr))
    (fun _ wr => leftS Bs wr)
  case atStart => exact ⟨[], s0, hs0, rfl, hB, h0⟩
  case round =>
    obtain ⟨pre, s, hs, hx, HB, HJ⟩ := hrel
    have cb := HB.out.cell
    by_cases h : (nextP s).2.2 = 0
    · have hok := Lib.hid (nextP_ok s h)
      have hcons := framesOf_ok s h
      have hx2 : framesOf s0 = pre ++ ((nextP s).1, (nextP s).2.1) :: framesOf (restOf s) := by rw [← hcons]; exact hx.out
      have hrs : s.extract (nextP s).2.1 s.size = restOf s := rfl
      have hrz := restOf_size s
      have hC : Hid (∀ w, Calls Try.prog 15 #[.string s] w _) := fun w => Next_any s w hs
      generalize restOf s = rs at *
      generalize nextP s = np at *
      obtain ⟨row, n, e0⟩ := np
      simp only [] at h hok hcons hx2 hrs hrz hC
      subst h
      have hok1 := hok.out.1
      have hok2 := hok.out.2.1
      have hsz := hs.out
      have HX2 := Lib.hid hx2; have HRS := Lib.hid hrs; have HRZ := Lib.hid hrz; clear hx2 hrs hrz hcons
      gi_wp2_with (fail)
      refine ⟨trivial, callsIn_wide.2 ((hC.out _).mono ?_)⟩
      rintro e w1 ⟨rfl, hb⟩
      have HB1 := Lib.hid (HB.out.kept (grown_below hb none) (by simp))
      have HJ1 := Lib.hid (hJ _ _ _ HJ.out (grown_below hb _))
      clear hb
      have cb1 := HB1.out.cell
      have fb1 := HB1.out.frozen
      obtain ⟨fn, tmps, assign, body, hy, hR⟩ := hY pre (row, n) w1 HJ1.out (by rw [HX2.out]; exact ⟨framesOf rs, by simp⟩)
      have HR := Lib.hid hR; clear hR
      gi_wp2_with (fail)
      refine HR.out.mono ?_
      rintro e w2 ⟨rfl, hJ2, hk2⟩
      have HJ2 := Lib.hid hJ2
      have HB2 : Hid (Boxed w2 Bs 9 (.string s)) := hk2.trans HB1.out
      clear hJ2 hk2
      have cb2 := HB2.out.cell
      have fb2 := HB2.out.frozen
      gi_wp2_with (fail)
      rw [HRS.out]
      have hB3 := HB2.out.set (.string rs)
      have hJ3 := hJ _ _ _ HJ2.out (grownBy_setCell' w2 Bs (.string rs))
      go_roundw
      case rel => exact ⟨pre ++ [(row, n)], rs, by have := HRZ.out; show _ ≤ _; omega, by show _ = _; rw [HX2.out]; simp, hB3, hJ3⟩
      case measure => rw [leftS_eq HB.out, leftS_eq hB3]; have := HRZ.out; omega
    · have hC : Hid (∀ w, Calls Try.prog 15 #[.string s] w _) := fun w => Next_any s w hs
      have hbad := Lib.hid (framesOf_bad s h)
      generalize nextP s = np at *
      obtain ⟨row, n, e0⟩ := np
      simp only [] at h hC
      have h' : (e0 != 0) = true := by simpa using h
      clear h
      gi_wp2_with (fail)
      refine ⟨trivial, callsIn_wide.2 ((hC.out _).mono ?_)⟩
      rintro e w1 ⟨rfl, hb⟩
      have HJ1 := Lib.hid (hJ _ _ _ HJ.out (grown_below hb _))
      clear hb
      gi_wp2_with (fail)
      refine ⟨fun _ h => (by cases h), ?_⟩
      gi_wp2_with (fail)
      refine bodyPost_ret (results_none rfl _ _ _) rfl ?_
      refine ⟨⟨_, rfl⟩, ?_⟩
      have := HJ1.out
      rw [hx.out, hbad.out, List.append_nil]
      exact this
end Go.Proofs.Ytjcdpmianmgiaaa
