/- The frame of a row, read again; the document's example. -/
import Derived.Test.YtjcdpmianmgiaaaFrameD
namespace Go.Proofs.Ytjcdpmianmgiaaa
open Go.RowKit

theorem frameStr_list (s : ByteArray) : (frameStr s).data.toList = (numStr s.size).data.toList ++ (s.data.toList ++ [165]) := by
  unfold frameStr rowStr
  simp [ByteArray.data_append]

theorem nextP_at (x s : ByteArray) (r : List UInt8) (h : x.data.toList = (frameStr s).data.toList ++ r) (h1 : 1 ≤ s.size) (h2 : s.size ≤ 65536) : nextP x = (s, (frameStr s).size, 0) := by
  rw [frameStr_list] at h
  have hk : (frameStr s).size = (numStr s.size).size + s.size + 1 := by unfold frameStr rowStr; simp [ByteArray.size_append]; rfl
  have hxs : x.size = (numStr s.size).size + s.size + 1 + r.length := by
    have := congrArg List.length h
    simp at this
    omega
  have hd : dig (x.data.toList.drop 0) 0 0 = (0, s.size, (numStr s.size).size) := by
    rw [List.drop_zero, h, List.append_assoc]
    exact dig_numStr s.size (by omega) _
  have hc : numC (x.data.toList.drop 0) 65536 = (0, s.size, (numStr s.size).size) := by
    unfold numC
    rw [hd, if_neg (by simp only []; omega)]
  have hn : nextN x = ((s.size : Int), (numStr s.size).size, 0) := by
    unfold nextN rNum
    rw [if_pos rfl, hc, if_pos rfl]
    simp
  rw [nextP_eq x (by omega), hn]
  unfold nextD
  simp only []
  rw [if_neg (by simp), if_neg (by omega), if_neg (by omega), Int.toNat_natCast]
  have hlen : (numStr s.size).data.toList.length = (numStr s.size).size := by simp
  have hls : s.data.toList.length = s.size := by simp
  have hb : x.data.toList[(numStr s.size).size + s.size]? = some 165 := by
    rw [h, List.append_assoc, List.getElem?_append_right (by omega), List.append_assoc, List.getElem?_append_right (by omega), show (numStr s.size).size + s.size - (numStr s.size).data.toList.length - s.data.toList.length = 0 by omega]
    rfl
  rw [if_pos hb, hk]
  have he : x.extract (numStr s.size).size ((numStr s.size).size + s.size) = s := by
    apply ByteArray.ext; apply Array.toList_inj.1
    rw [Lib.extract_data, h, List.append_assoc, List.drop_append_of_le_length (by omega), List.drop_of_length_le (by omega), List.nil_append, List.append_assoc, List.take_append_of_le_length (by omega), List.take_of_length_le (by omega)]
  rw [he]

theorem frames_eg : framesOf ⟨#[2, 97, 98, 165, 0, 0]⟩ = [(⟨#[97, 98]⟩, 4)] := by decide +kernel
theorem frameStr_eg : frameStr ⟨#[97, 98]⟩ = ⟨#[2, 97, 98, 165]⟩ := by decide +kernel

set_option maxRecDepth 100000 in
set_option maxHeartbeats 800000 in
theorem alive07 (w : World) : Calls Try.prog 4 #[] w fun e w' => e = .returned (.bool true) ∧ Below w.heap.size w w' := by
  have hw : ∀ w, Calls Try.prog 8 #[.string ⟨#[97, 98]⟩] w _ := fun w => Wrap_any ⟨#[97, 98]⟩ w (by show (2 : Nat) ≤ _; omega) (by rw [empty_size]; rfl)
  rw [frameStr_eg] at hw
  have hs : ∀ w, Calls Try.prog 7 #[.string ⟨#[2, 97, 98, 165, 0, 0]⟩] w _ := fun w => Scan_any ⟨#[2, 97, 98, 165, 0, 0]⟩ w (by show (6 : Nat) ≤ _; omega)
  rw [frames_eg] at hs
  have HW := Lib.hid hw; have HS := Lib.hid hs; clear hw hs
  go_enter Try.func4, Try.ntmps4
  go_wp2_with fail
  refine (HW.out _).mono ?_
  rintro e w1 ⟨rfl, hb⟩
  have HB1 := Lib.hid hb; clear hb
  go_wp2_with fail
  refine (HS.out _).mono ?_
  rintro e w2 ⟨v, rfl, hown, hb⟩
  have HB2 := Lib.hid (below_to HB1.out hb); clear hb
  obtain ⟨g, cap, rfl⟩ := ownsRow_succ hown
  have c0 := hown.cells (g := g) rfl 0 (.string ⟨#[97, 98]⟩) rfl
  have c1 : w2.cell? ⟨g, 0, none⟩ = some (.string ⟨#[97, 98]⟩) := c0
  have hl : (4 : Int) = ((sumOf [((⟨#[97, 98]⟩ : ByteArray), 4)] : Nat) : Int) := rfl
  rw [← hl]
  clear hl hown c0
  go_wp2_with fail
  go_ret
  exact ⟨rfl, HB2.out⟩

theorem beq_self (s : ByteArray) : (s.toList == s.toList) = true := by simp

end Go.Proofs.Ytjcdpmianmgiaaa
