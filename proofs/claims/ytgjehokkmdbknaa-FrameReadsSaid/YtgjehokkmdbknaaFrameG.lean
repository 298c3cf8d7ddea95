/- The walk of FrameReads. -/
import Derived.Test.YtgjehokkmdbknaaFrameF
namespace Go.Proofs.Ytgjehokkmdbknaa
open Go.RowKit

def sumTo (xs : List (ByteArray × Nat)) (i : Nat) : Nat := sumOf (xs.take i)
def sizeAt (xs : List (ByteArray × Nat)) (i : Nat) : Nat := (xs[i]?.getD (⟨#[]⟩, 0)).2
def rowAt (xs : List (ByteArray × Nat)) (i : Nat) : ByteArray := (xs[i]?.getD (⟨#[]⟩, 0)).1
theorem sumTo_succ (xs : List (ByteArray × Nat)) (i : Nat) (h : i < xs.length) : sumTo xs (i + 1) = sumTo xs i + sizeAt xs i := by
  unfold sumTo sizeAt
  rw [List.take_add_one, List.getElem?_eq_getElem h]
  unfold sumOf
  rw [List.map_append, List.sum_append]
  simp
theorem sumTo_all (xs : List (ByteArray × Nat)) : sumTo xs xs.length = sumOf xs := by unfold sumTo; rw [List.take_length]
theorem sumTo_zero (xs : List (ByteArray × Nat)) : sumTo xs 0 = 0 := rfl
theorem sumTo_le (xs : List (ByteArray × Nat)) (i : Nat) : sumTo xs i ≤ sumOf xs := by
  have h1 : xs = xs.take i ++ xs.drop i := (List.take_append_drop i xs).symm
  unfold sumTo
  rw [show sumOf xs = sumOf (xs.take i ++ xs.drop i) by rw [List.take_append_drop]]
  unfold sumOf
  rw [List.map_append, List.sum_append]
  omega

set_option maxRecDepth 100000 in
set_option maxHeartbeats 1000000 in
theorem FrameReads_walk (s : ByteArray) (w : World) (hs : s.size ≤ 9223372036854775807) :
    Calls Try.prog 9 #[.string s] w fun e w' => e = .returned (.bool true) ∧ Below w.heap.size w w' := by
  by_cases hg : 2000 < s.size
  · have z1 : (2000 : Int) < s.size := by omega
    go_enter Try.func9, Try.ntmps9
    go_wp2_with fail
    refine (alive07 _).mono ?_
    rintro e w1 ⟨rfl, hb⟩
    have HB1 := Lib.hid hb; clear hb
    go_wp2_with fail
    go_ret
    exact ⟨rfl, HB1.out⟩
  · have z1 : ¬ (2000 : Int) < s.size := by omega
    have hs2 : Hid (s.size ≤ 1099511627776) := by show _ ≤ _; omega
    have hs3 : Hid (s.size ≤ 1099511627775) := by show _ ≤ _; omega
    have C1 := Lib.hid (show ∀ w, Calls Try.prog 38 #[.string s] w _ from fun w => Next_any s w hs2)
    have C2 := Lib.hid (show ∀ w, Calls Try.prog 42 #[.string s] w _ from fun w => refNext_any s w hs2)
    have C3 := Lib.hid (show ∀ w, Calls Try.prog 41 #[.string s] w _ from fun w => Scan_any s w hs3)
    have C4 := Lib.hid (show ∀ w, Calls Try.prog 43 #[.string s] w _ from fun w => refScan_any s w hs3)
    have C5 := Lib.hid (show ∀ w, Calls Try.prog 44 #[.string s] w _ from fun w => Sizes_any s w hs3)
    have hsum := sumOf_le (s.size + 1) s (by omega)
    have hall := sumTo_all (framesOf s)
    have hsucc := sumTo_succ (framesOf s)
    have hle := sumTo_le (framesOf s)
    generalize framesOf s = xs at *
    generalize nextP s = np at *
    obtain ⟨row, n, e0⟩ := np
    simp only [] at C1 C2
    have hm : sumOf xs ≤ 2000 ∧ xs.length ≤ 2000 := by omega
    have HM := Lib.hid hm; have HALL := Lib.hid hall; have HSUCC := Lib.hid hsucc; have HLE := Lib.hid hle; clear hm hall hsucc hle hsum
    have hb := beq_self row
    go_enter Try.func9, Try.ntmps9
    go_wp2_with fail
    refine (alive07 _).mono ?_
    rintro e w1 ⟨rfl, hb⟩
    have HB1 := Lib.hid hb; clear hb
    go_wp2_with fail
    refine (C1.out _).mono ?_
    rintro e w2 ⟨rfl, hb⟩
    have HB2 := Lib.hid (below_to HB1.out hb); clear hb
    go_wp2_with fail
    refine (C2.out _).mono ?_
    rintro e w3 ⟨rfl, hb⟩
    have HB3 := Lib.hid (below_to HB2.out hb); clear hb
    go_wp2_with fail
    refine (C3.out _).mono ?_
    rintro e w4 ⟨v, rfl, hown, hb⟩
    have HB4 := Lib.hid (below_to HB3.out hb); clear hb
    have R4 := Lib.hid (own_row xs (fun x => Value.string x.1) (⟨#[]⟩, 0) hown).1; clear hown
    go_wp2_with fail
    refine (C4.out _).mono ?_
    rintro e w5 ⟨v1, v2, rfl, hown1, hown2, hb⟩
    have HB5 := Lib.hid (below_to HB4.out hb)
    have R4' := Lib.hid (R4.out.below hb); clear hb R4
    have R5 := Lib.hid (own_row xs (fun x => Value.string x.1) (⟨#[]⟩, 0) hown1).1; clear hown1
    have Z5 := Lib.hid (own_row xs (fun x => Value.int .i64 (x.2 : Int)) (⟨#[]⟩, 0) hown2).1; clear hown2
    go_wp2_with fail
    refine (C5.out _).mono ?_
    rintro e w6 ⟨v3, rfl, hown, hb⟩
    have HB6 := Lib.hid (below_to HB5.out hb)
    have R6 := Lib.hid (R4'.out.below hb); have R6' := Lib.hid (R5.out.below hb); have Z6 := Lib.hid (Z5.out.below hb); clear hb R4' R5 Z5
    have Y6 := Lib.hid (own_row xs (fun x => Value.int .i64 (x.2 : Int)) (⟨#[]⟩, 0) hown).1; clear hown
    obtain ⟨A2, c2, rfl, k2⟩ := Z6.out
    obtain ⟨A3, c3, rfl, k3⟩ := Y6.out
    have K2 := Lib.hid k2; have K3 := Lib.hid k3; clear k2 k3 Z6 Y6
    go_wp2_with fail
    refine (Same_any _ _ _ _ _ R6 R6' (by have := HM.out.2; omega)).mono ?_
    rintro e w7 ⟨rfl, nd, rfl⟩
    have HB7 := Lib.hid (below_drewN HB6.out nd)
    go_wp2_with fail
    have hm1 := HM.out.1; have hm2 := HM.out.2
    go_loopw [10, 14] (fun av si wr => ∃ i k : Nat, si = .int .i64 i ∧ av = .int .i64 ((sumOf xs - sumTo xs i : Nat) : Int) ∧ Hid (i ≤ xs.length) ∧ wr = w6.drewN k) (fun _ si _ => xs.length - (intOf si).toNat)
    case atStart => exact ⟨0, nd, rfl, rfl, Nat.zero_le _, rfl⟩
    case round =>
      obtain ⟨i, k, rfl, rfl, hi, rfl⟩ := hrel
      have hi2 := hi.out
      by_cases hlt : i < xs.length
      · obtain ⟨b2, o2, rfl, _, e2⟩ := K2.out i hlt
        obtain ⟨b3, o3, rfl, _, e3⟩ := K3.out i hlt
        have e2' : w6.cell? ⟨b2, o2 + i, none⟩ = some (.int .i64 (sizeAt xs i : Int)) := e2
        have e3' : w6.cell? ⟨b3, o3 + i, none⟩ = some (.int .i64 (sizeAt xs i : Int)) := e3
        have hw : wrap64 ((i : Int) + 1) = ((i + 1 : Nat) : Int) := by simp only [wrap64]; omega
        have hs1 := HSUCC.out i hlt
        have hs2 := HLE.out (i + 1)
        have hw2 : wrap64 (((sumOf xs - sumTo xs i : Nat) : Int) - (sizeAt xs i : Int)) = ((sumOf xs - sumTo xs (i + 1) : Nat) : Int) := by simp only [wrap64]; omega
        generalize sizeAt xs i = z at *
        have HW := Lib.hid hw; have HW2 := Lib.hid hw2; clear hw hw2 e2 e3
        have hz : (sumOf xs - sumTo xs i : Nat) ≤ 2000 ∧ z ≤ 2000 := by omega
        generalize sumOf xs - sumTo xs i = q at *
        have hz1 := hz.1
        have hz2 := hz.2
        clear hz hs1 hs2
        go_wp2_with (fail)
        go_quiet (fail)
        go_wp2_with (fail)
        go_roundw
        case rel => exact ⟨i + 1, k + _, by first | rfl | (rw [← HW.out]; rfl), by first | (rw [← HW2.out]; rfl) | (rw [← HW2.out]; simp only [wrap64]; congr 1; omega), by show _ ≤ _; omega, rfl⟩
        case measure => simp [intOf]; omega
      · obtain rfl : i = xs.length := by omega
        have hf : sumOf xs - sumTo xs xs.length = 0 := by have := HALL.out; omega
        rw [hf]
        go_wp2_with (fail)
        go_ret
        exact ⟨rfl, below_drewN HB6.out _⟩
end Go.Proofs.Ytgjehokkmdbknaa
