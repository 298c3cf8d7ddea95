/- The reference's bytes; the document's example; the walk of NumsWrites. -/
import Derived.Test.YtgjehokkmdbknaaNumsH
namespace Go.Proofs.Ytgjehokkmdbknaa
open Go.RowKit

theorem refNum_any (n : Int) (w : World) (hn : Hid (U64 n)) :
    Calls Try.prog 12 #[.int .u64 n] w fun e w' => e = .returned (.string (numStr n.toNat)) ∧ Below w.heap.size w w' := by
  obtain ⟨m, rfl⟩ := Int.eq_ofNat_of_zero_le hn.out.1
  exact rNum_nat 9 m w ⟨by have := hn.out.2; omega, by omega⟩

theorem refInt_any (n : Int) (w : World) (hn : Hid (I64 n)) :
    Calls Try.prog 14 #[.int .i64 n] w fun e w' => e = .returned (.string (intStr n)) ∧ Below w.heap.size w w' := by
  have hu : Hid (U64 (zig n)) := zig_u64 n hn.out
  go_enter Try.func14, Try.ntmps14
  go_wp2_with fail
  refine (rZig_any _ _ hn).mono ?_; rintro e w' ⟨rfl, rfl⟩
  go_wp2_with fail
  refine (refNum_any _ _ hu).mono ?_; rintro e w' ⟨rfl, hb⟩
  go_wp2_with fail
  go_ret
  exact ⟨rfl, hb⟩

set_option maxRecDepth 100000 in
theorem refRow_any (s : ByteArray) (w : World) (hs : Hid (s.size ≤ 1099511627776)) :
    Calls Try.prog 16 #[.string s] w fun e w' => e = .returned (.string (rowStr s)) ∧ Below w.heap.size w w' := by
  have e1 := Lib.hid (wrap_size s hs.out)
  go_enter Try.func16, Try.ntmps16
  go_wp2_with fail
  rw [e1.out]
  refine (refNum_any _ _ (by have := hs.out; show U64 _; unfold U64; omega)).mono ?_; rintro e w' ⟨rfl, hb⟩
  rw [Int.toNat_natCast]
  have h1 := numStr_size s.size
  have h2 : s.size ≤ 1099511627776 := hs.out
  go_wp2_with fail
  go_ret
  exact ⟨rfl, hb⟩

set_option maxRecDepth 100000 in
set_option maxHeartbeats 800000 in
theorem alive01 (w : World) : Calls Try.prog 10 #[] w fun e w' => e = .returned (.bool true) ∧ Below w.heap.size w w' := by
  go_enter Try.func10, Try.ntmps10
  go_wp2_with fail
  refine (Read_any _ _).mono ?_
  rintro e w1 ⟨rfl, hR, hb, hsz⟩
  have HR1 := Lib.hid hR; clear hR
  have HB1 := Lib.hid hb; clear hb
  clear hsz
  go_wp2_with fail
  refine (Num_any _ _ (by show U64 _; unfold U64; omega)).mono ?_
  rintro e w2 ⟨rfl, hb⟩
  rw [show numStr (300 : Int).toNat = ⟨#[172, 2]⟩ by decide +kernel]
  have HR2 := Lib.hid (HR1.out.rest hb)
  have HB2 := Lib.hid (below_to HB1.out hb)
  clear hb
  go_wp2_with fail
  refine (Int_any _ _ (by show I64 _; unfold I64; omega)).mono ?_
  rintro e w3 ⟨rfl, hb⟩
  rw [show intStr (-3) = ⟨#[5]⟩ by decide +kernel]
  have HR3 := Lib.hid (HR2.out.rest hb)
  have HB3 := Lib.hid (below_to HB2.out hb)
  clear hb
  go_wp2_with fail
  refine (Row_any _ _ (by show _ ≤ _; decide)).mono ?_
  rintro e w4 ⟨rfl, hb⟩
  rw [show rowStr { data := #[97, 98] } = ⟨#[2, 97, 98]⟩ by decide +kernel]
  have HR4 := Lib.hid (HR3.out.rest hb)
  have HB4 := Lib.hid (below_to HB3.out hb)
  clear hb
  go_wp2_with fail
  refine (RNum_any _ _ _ _ _ _ HR4 (by show _ ≤ _; decide) (by show _ ≤ _; decide) (by show U64 _; unfold U64; omega)).mono ?_
  rintro e w5 ⟨rfl, hR, hG⟩
  have HR5 := Lib.hid hR; clear hR
  have HG5 := Lib.hid hG; clear hG
  rw [show rNum { data := #[128, 0] } 0 0 (9 : Int).toNat = (0, 0, 3) by decide +kernel] at HR5 ⊢
  go_wp2_with fail
  refine (RFault_any _ _ _ _ _ HR5).mono ?_
  rintro e w6 ⟨rfl, rfl⟩
  go_wp2_with fail
  go_ret
  exact ⟨rfl, HB4.out.grown HG5.out HB4.out.size (fun k hk => by injection hk with hk; omega)⟩

set_option maxRecDepth 100000 in
set_option maxHeartbeats 800000 in
theorem NumsWrites_walk (n m : Int) (s : ByteArray) (w : World) (hn : Hid (U64 n)) (hm : Hid (I64 m)) (hs : s.size ≤ 9223372036854775807) :
    Calls Try.prog 3 #[.int .u64 n, .int .i64 m, .string s] w fun e w' => e = .returned (.bool true) ∧ Below w.heap.size w w' := by
  by_cases h : s.size ≤ 2000
  · have hs2 : Hid (s.size ≤ 1099511627776) := by show _ ≤ _; omega
    go_enter Try.func3, Try.ntmps3
    go_wp2_with fail
    refine (alive01 _).mono ?_
    rintro e w1 ⟨rfl, hb⟩
    have HB1 := Lib.hid hb; clear hb
    go_wp2_with fail
    refine (Num_any _ _ hn).mono ?_
    rintro e w2 ⟨rfl, hb⟩
    have HB2 := Lib.hid (below_to HB1.out hb); clear hb
    go_wp2_with fail
    refine (refNum_any _ _ hn).mono ?_
    rintro e w3 ⟨rfl, hb⟩
    have HB3 := Lib.hid (below_to HB2.out hb); clear hb
    go_wp2_with fail
    refine (Int_any _ _ hm).mono ?_
    rintro e w4 ⟨rfl, hb⟩
    have HB4 := Lib.hid (below_to HB3.out hb); clear hb
    go_wp2_with fail
    refine (refInt_any _ _ hm).mono ?_
    rintro e w5 ⟨rfl, hb⟩
    have HB5 := Lib.hid (below_to HB4.out hb); clear hb
    go_wp2_with fail
    refine (Row_any _ _ hs2).mono ?_
    rintro e w6 ⟨rfl, hb⟩
    have HB6 := Lib.hid (below_to HB5.out hb); clear hb
    go_wp2_with fail
    refine (refRow_any _ _ hs2).mono ?_
    rintro e w7 ⟨rfl, hb⟩
    have HB7 := Lib.hid (below_to HB6.out hb); clear hb
    go_wp2_with fail
    refine (Zig_any _ _ hm).mono ?_
    rintro e w' ⟨rfl, rfl⟩
    go_wp2_with fail
    refine (rZig_any _ _ hm).mono ?_
    rintro e w' ⟨rfl, rfl⟩
    go_wp2_with fail
    refine (Zag_any _ _ hn).mono ?_
    rintro e w' ⟨rfl, rfl⟩
    go_wp2_with fail
    refine (rZag_any _ _ hn).mono ?_
    rintro e w' ⟨rfl, rfl⟩
    go_wp2_with fail
    go_ret
    exact ⟨rfl, HB7.out⟩
  · go_enter Try.func3, Try.ntmps3
    go_wp2_with fail
    refine (alive01 _).mono ?_
    rintro e w1 ⟨rfl, hb⟩
    have HB1 := Lib.hid hb; clear hb
    go_wp2_with fail
    go_ret
    exact ⟨rfl, HB1.out⟩
end Go.Proofs.Ytgjehokkmdbknaa
