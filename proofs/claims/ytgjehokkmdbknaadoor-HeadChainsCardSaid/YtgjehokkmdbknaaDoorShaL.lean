/- The reference's Hex. -/
import Derived.Test.YtgjehokkmdbknaaDoorShaF
namespace Go.Proofs.YtgjehokkmdbknaaDoor
open Go Go.RowKit

theorem hex_cut (d : Nat) (h : d < 16) : ByteArray.extract ⟨#[48, 49, 50, 51, 52, 53, 54, 55, 56, 57, 97, 98, 99, 100, 101, 102]⟩ d (d + 1) = strOfNums [hexD d] := by
  have hd : d = 0 ∨ d = 1 ∨ d = 2 ∨ d = 3 ∨ d = 4 ∨ d = 5 ∨ d = 6 ∨ d = 7 ∨ d = 8 ∨ d = 9 ∨ d = 10 ∨ d = 11 ∨ d = 12 ∨ d = 13 ∨ d = 14 ∨ d = 15 := by omega
  rcases hd with rfl | rfl | rfl | rfl | rfl | rfl | rfl | rfl | rfl | rfl | rfl | rfl | rfl | rfl | rfl | rfl <;> decide +kernel
theorem hexL_len (l : List UInt8) : (hexL l).length = 2 * l.length := by
  unfold hexL
  induction l with
  | nil => rfl
  | cons b l ih => rw [List.flatMap_cons, List.length_append, ih]; simp; omega

set_option maxRecDepth 100000 in
set_option maxHeartbeats 1000000 in
theorem rHex_any (s : ByteArray) (w : World) (hs : Hid (s.size ≤ 549755000000)) :
    Calls Tryd.prog 20 #[.string s] w fun e w' => e = .returned (.string (strOfNums (hexL s.data.toList))) ∧ Below w.heap.size w w' := by
  have hs2 := hs.out
  go_enter Tryd.func20, Tryd.ntmps20
  go_wp2_with fail
  go_loopw [3, 4] (fun v3 iv wr => ∃ (k : Nat) (acc : ByteArray), iv = .int .i64 k ∧ v3 = .string acc ∧ Hid (acc = strOfNums (hexL (s.data.toList.take k))) ∧ Hid (acc.size = 2 * k) ∧ Hid (k ≤ s.size) ∧ Hid (Below w.heap.size w wr)) (fun _ iv _ => s.size - (intOf iv).toNat)
  case atStart => exact ⟨0, _, rfl, rfl, rfl, rfl, Nat.zero_le _, Below.refl _ _⟩
  case round =>
    obtain ⟨k, acc, rfl, rfl, hacc, hsz, hk, HL⟩ := hrel
    have hk2 := hk.out
    have hsz2 := hsz.out
    by_cases hlt : k < s.size
    · have hb8 : s[k].toNat < 256 := s[k].toNat_lt
      have hta : strOfNums (hexL (s.data.toList.take k)) ++ strOfNums [hexD (s[k].toNat / 16)] ++ strOfNums [hexD (s[k].toNat % 16)] = strOfNums (hexL (s.data.toList.take (k + 1))) := by
        rw [List.take_succ_eq_append_getElem (by simpa using hlt)]
        unfold hexL
        rw [List.flatMap_append, ← strOfNums_append, ← strOfNums_append, List.append_assoc]
        rfl
      rw [← hacc.out, ← hex_cut (s[k].toNat / 16) (by omega), ← hex_cut (s[k].toNat % 16) (by omega)] at hta
      have HTA := Lib.hid hta
      clear hta
      have hb16 : s[k].toNat / 16 < 16 := by omega
      go_wp2_with fail
      go_quiet (fail)
      go_wp2_with fail
      go_roundw
      case rel =>
        refine ⟨k + 1, _, by go_num, rfl, HTA.out, ?_, by show _ ≤ _; omega, below_drewN HL.out nq⟩
        show _ = _
        rw [HTA.out, strOfNums_size, hexL_len, List.length_take]
        simp
        omega
      case measure => simp [intOf]; omega
    · have hke : k = s.size := by omega
      have hacc2 := hacc.out
      rw [hke, List.take_of_length_le (by simp)] at hacc2
      have HA := Lib.hid hacc2
      clear hke hacc2
      go_wp2_with fail
      go_ret
      exact ⟨by rw [← HA.out]; rfl, HL.out⟩
end Go.Proofs.YtgjehokkmdbknaaDoor
