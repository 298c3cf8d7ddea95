/- sha: Sum, Cut, Hex. -/
import Derived.Test.YtaigngdlioplaaaDoorShaE
namespace Go.Proofs.YtaigngdlioplaaaDoor
open Go Go.RowKit

theorem bytesL_range (s : ByteArray) : ∀ x ∈ bytesL s, 0 ≤ x ∧ x ≤ 255 := by
  intro x hx
  unfold bytesL at hx
  obtain ⟨b, _, rfl⟩ := List.mem_map.1 hx
  have := b.toNat_lt
  omega
theorem HashAt.call {w w' : World} {g : Nat} {K : Nat → Int} {H : St} {l : List Int} (h : HashAt w g K H l) (hb : Below w.heap.size w w') : HashAt w' g K H l := by
  obtain ⟨r, h1, h2⟩ := h.blk
  exact ⟨⟨r, blk_call h1 hb, h2.call hb⟩, Nat.le_trans h.lt hb.size⟩

set_option maxRecDepth 100000 in
set_option maxHeartbeats 1000000 in
theorem Sum_any (K : Nat → Int) (H : St) (s : ByteArray) (w : World) (hT : Hid (ShaT w K H)) (hs : Hid (s.size ≤ 1099511000000)) :
    Calls Tryd.prog 105 #[.string s] w fun e w' => e = .returned (.string (sumS K H (bytesL s))) ∧ Below w.heap.size w w' := by
  have hs2 := hs.out
  go_enter Tryd.func105, Tryd.ntmps105
  go_wp2_with fail
  refine (New_any K H _ hT).mono ?_
  rintro e w1 ⟨rfl, hh, hb⟩
  have HH := Lib.hid hh
  have HB1 := Lib.hid hb
  have HT1 := Lib.hid (hT.out.call hb)
  clear hh hb
  go_wp2_with fail
  refine (Write_any K H w.heap.size [] s w1 HH HT1 (fun x hx => by cases hx) ⟨hT.out.ltk, hT.out.lth⟩ (by show (0 : Nat) + s.size ≤ _; omega)).mono ?_
  rintro e w2 ⟨rfl, hh, hb⟩
  rw [List.nil_append] at hh
  have HH2 := Lib.hid hh
  have HB2 := Lib.hid (HB1.out.trans hb)
  have HT2 := Lib.hid (hT.out.call HB2.out)
  clear hh hb
  go_wp2_with fail
  refine (HSum_any K H w.heap.size (bytesL s) w2 HH2 HT2 (bytesL_range s) (by rw [bytesL_len]; exact hs.out)).mono ?_
  rintro e w3 ⟨rfl, hb⟩
  have HB3 := Lib.hid (below_to HB2.out hb)
  clear hb
  go_wp2_with fail
  go_ret
  exact ⟨rfl, HB3.out⟩

theorem _root_.Go.World.ownsRow.call {w w' : World} {B n size : Nat} {e : TypeId} {v : Value} {xs : List Value} (h : w.ownsRow B e size v n xs) (hb : Below w.heap.size w w') : w'.ownsRow B e size v n xs := by
  refine ⟨h.1, ?_⟩
  rcases h.2 with h' | ⟨g, cap, cur, rfl, h1, h2, h3⟩
  · exact .inl h'
  · exact .inr ⟨g, cap, cur, rfl, h1, blk_call h2 hb, h3⟩
/-- What is cut off a digest. -/
def cutS (K : Nat → Int) (H : St) (s : ByteArray) (n : Int) : ByteArray := if n < 1 ∨ 32 < n then ⟨#[]⟩ else (sumS K H (bytesL s)).extract 0 n.toNat
theorem sumS_size (K : Nat → Int) (H : St) (l : List Int) : (sumS K H l).size = 32 := by unfold sumS; rw [strOfNums_size, outL_len]

set_option maxRecDepth 100000 in
set_option maxHeartbeats 1000000 in
theorem Cut_any (K : Nat → Int) (H : St) (s : ByteArray) (n : Int) (w : World) (hT : Hid (ShaT w K H)) (hs : Hid (s.size ≤ 1099511000000)) (hn : Hid (I64 n)) :
    Calls Tryd.prog 67 #[.string s, .int .i64 n] w fun e w' => e = .returned (.tuple #[.string (cutS K H s n), .int .i64 (if n < 1 ∨ 32 < n then 1 else 0)]) ∧ Below w.heap.size w w' := by
  unfold cutS
  by_cases h1 : n < 1
  · rw [if_pos (Or.inl h1), if_pos (Or.inl h1)]
    go_enter Tryd.func67, Tryd.ntmps67
    go_wp2_with fail
    go_ret2
    exact ⟨rfl, Below.refl _ _⟩
  · by_cases h2 : 32 < n
    · rw [if_pos (Or.inr h2), if_pos (Or.inr h2)]
      go_enter Tryd.func67, Tryd.ntmps67
      go_wp2_with fail
      go_ret2
      exact ⟨rfl, Below.refl _ _⟩
    · rw [if_neg (by omega), if_neg (by omega)]
      obtain ⟨m, rfl⟩ := Int.eq_ofNat_of_zero_le (show 0 ≤ n by omega)
      have hsz := sumS_size K H (bytesL s)
      have q := Lib.hid (Sum_any K H s w hT hs)
      generalize sumS K H (bytesL s) = S at *
      have hm : m ≤ S.size := by omega
      have HSZ := Lib.hid hsz
      clear hsz
      rw [Int.toNat_natCast]
      go_enter Tryd.func67, Tryd.ntmps67
      go_wp2_with fail
      refine q.out.mono ?_
      rintro e w1 ⟨rfl, hb⟩
      have HB1 := Lib.hid hb
      clear hb
      go_wp2_with fail
      go_ret2
      exact ⟨rfl, HB1.out⟩

def hexS : ByteArray := ⟨#[48, 49, 50, 51, 52, 53, 54, 55, 56, 57, 97, 98, 99, 100, 101, 102]⟩
def hexD (d : Nat) : Int := if d < 10 then (d + 48 : Nat) else (d + 87 : Nat)
theorem hex_idx0 (w : World) : (Instr.index 9 (.string ⟨#[48, 49, 50, 51, 52, 53, 54, 55, 56, 57, 97, 98, 99, 100, 101, 102]⟩) (.int .u8 0)).run Tryd.prog w = .ok (.int .u8 (hexD 0)) w := by kernel_rfl
theorem hex_idx1 (w : World) : (Instr.index 9 (.string ⟨#[48, 49, 50, 51, 52, 53, 54, 55, 56, 57, 97, 98, 99, 100, 101, 102]⟩) (.int .u8 1)).run Tryd.prog w = .ok (.int .u8 (hexD 1)) w := by kernel_rfl
theorem hex_idx2 (w : World) : (Instr.index 9 (.string ⟨#[48, 49, 50, 51, 52, 53, 54, 55, 56, 57, 97, 98, 99, 100, 101, 102]⟩) (.int .u8 2)).run Tryd.prog w = .ok (.int .u8 (hexD 2)) w := by kernel_rfl
theorem hex_idx3 (w : World) : (Instr.index 9 (.string ⟨#[48, 49, 50, 51, 52, 53, 54, 55, 56, 57, 97, 98, 99, 100, 101, 102]⟩) (.int .u8 3)).run Tryd.prog w = .ok (.int .u8 (hexD 3)) w := by kernel_rfl
theorem hex_idx4 (w : World) : (Instr.index 9 (.string ⟨#[48, 49, 50, 51, 52, 53, 54, 55, 56, 57, 97, 98, 99, 100, 101, 102]⟩) (.int .u8 4)).run Tryd.prog w = .ok (.int .u8 (hexD 4)) w := by kernel_rfl
theorem hex_idx5 (w : World) : (Instr.index 9 (.string ⟨#[48, 49, 50, 51, 52, 53, 54, 55, 56, 57, 97, 98, 99, 100, 101, 102]⟩) (.int .u8 5)).run Tryd.prog w = .ok (.int .u8 (hexD 5)) w := by kernel_rfl
theorem hex_idx6 (w : World) : (Instr.index 9 (.string ⟨#[48, 49, 50, 51, 52, 53, 54, 55, 56, 57, 97, 98, 99, 100, 101, 102]⟩) (.int .u8 6)).run Tryd.prog w = .ok (.int .u8 (hexD 6)) w := by kernel_rfl
theorem hex_idx7 (w : World) : (Instr.index 9 (.string ⟨#[48, 49, 50, 51, 52, 53, 54, 55, 56, 57, 97, 98, 99, 100, 101, 102]⟩) (.int .u8 7)).run Tryd.prog w = .ok (.int .u8 (hexD 7)) w := by kernel_rfl
theorem hex_idx8 (w : World) : (Instr.index 9 (.string ⟨#[48, 49, 50, 51, 52, 53, 54, 55, 56, 57, 97, 98, 99, 100, 101, 102]⟩) (.int .u8 8)).run Tryd.prog w = .ok (.int .u8 (hexD 8)) w := by kernel_rfl
theorem hex_idx9 (w : World) : (Instr.index 9 (.string ⟨#[48, 49, 50, 51, 52, 53, 54, 55, 56, 57, 97, 98, 99, 100, 101, 102]⟩) (.int .u8 9)).run Tryd.prog w = .ok (.int .u8 (hexD 9)) w := by kernel_rfl
theorem hex_idx10 (w : World) : (Instr.index 9 (.string ⟨#[48, 49, 50, 51, 52, 53, 54, 55, 56, 57, 97, 98, 99, 100, 101, 102]⟩) (.int .u8 10)).run Tryd.prog w = .ok (.int .u8 (hexD 10)) w := by kernel_rfl
theorem hex_idx11 (w : World) : (Instr.index 9 (.string ⟨#[48, 49, 50, 51, 52, 53, 54, 55, 56, 57, 97, 98, 99, 100, 101, 102]⟩) (.int .u8 11)).run Tryd.prog w = .ok (.int .u8 (hexD 11)) w := by kernel_rfl
theorem hex_idx12 (w : World) : (Instr.index 9 (.string ⟨#[48, 49, 50, 51, 52, 53, 54, 55, 56, 57, 97, 98, 99, 100, 101, 102]⟩) (.int .u8 12)).run Tryd.prog w = .ok (.int .u8 (hexD 12)) w := by kernel_rfl
theorem hex_idx13 (w : World) : (Instr.index 9 (.string ⟨#[48, 49, 50, 51, 52, 53, 54, 55, 56, 57, 97, 98, 99, 100, 101, 102]⟩) (.int .u8 13)).run Tryd.prog w = .ok (.int .u8 (hexD 13)) w := by kernel_rfl
theorem hex_idx14 (w : World) : (Instr.index 9 (.string ⟨#[48, 49, 50, 51, 52, 53, 54, 55, 56, 57, 97, 98, 99, 100, 101, 102]⟩) (.int .u8 14)).run Tryd.prog w = .ok (.int .u8 (hexD 14)) w := by kernel_rfl
theorem hex_idx15 (w : World) : (Instr.index 9 (.string ⟨#[48, 49, 50, 51, 52, 53, 54, 55, 56, 57, 97, 98, 99, 100, 101, 102]⟩) (.int .u8 15)).run Tryd.prog w = .ok (.int .u8 (hexD 15)) w := by kernel_rfl
theorem hex_idx (d : Nat) (h : d < 16) (w : World) : (Instr.index 9 (.string ⟨#[48, 49, 50, 51, 52, 53, 54, 55, 56, 57, 97, 98, 99, 100, 101, 102]⟩) (.int .u8 (d : Int))).run Tryd.prog w = .ok (.int .u8 (hexD d)) w := by
  have hd : d = 0 ∨ d = 1 ∨ d = 2 ∨ d = 3 ∨ d = 4 ∨ d = 5 ∨ d = 6 ∨ d = 7 ∨ d = 8 ∨ d = 9 ∨ d = 10 ∨ d = 11 ∨ d = 12 ∨ d = 13 ∨ d = 14 ∨ d = 15 := by omega
  rcases hd with rfl | rfl | rfl | rfl | rfl | rfl | rfl | rfl | rfl | rfl | rfl | rfl | rfl | rfl | rfl | rfl
  · exact hex_idx0 w
  · exact hex_idx1 w
  · exact hex_idx2 w
  · exact hex_idx3 w
  · exact hex_idx4 w
  · exact hex_idx5 w
  · exact hex_idx6 w
  · exact hex_idx7 w
  · exact hex_idx8 w
  · exact hex_idx9 w
  · exact hex_idx10 w
  · exact hex_idx11 w
  · exact hex_idx12 w
  · exact hex_idx13 w
  · exact hex_idx14 w
  · exact hex_idx15 w
/-- The digits of bytes. -/
def hexL (l : List UInt8) : List Int := l.flatMap fun b => [hexD (b.toNat / 16), hexD (b.toNat % 16)]

end Go.Proofs.YtaigngdlioplaaaDoor
