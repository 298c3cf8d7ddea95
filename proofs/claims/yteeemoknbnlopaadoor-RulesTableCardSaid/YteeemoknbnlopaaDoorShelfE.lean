/- The walks of ShelfKinds and ShelfNames. -/
import Derived.Test.YteeemoknbnlopaaDoorShelfD
namespace Go.Proofs.YteeemoknbnlopaaDoor
open Go Go.RowKit Shelf
set_option linter.unusedVariables false

theorem dec_12 : Lib.decDigits 12 = [49, 50] := by
  rw [Lib.decDigits, dif_neg (by decide), Lib.decDigits, dif_pos (by decide)]; rfl

set_option maxRecDepth 100000 in
set_option maxHeartbeats 1000000 in
theorem alive10 (w : World) (hT : Hid (TabW w)) : Calls Tryd.prog 9 #[] w fun e w' => e = .returned (.bool true) ∧ Below w.heap.size w w' := by
  have q1 := Lib.hid (Kind_any ⟨#[99, 48]⟩ (by decide) w)
  rw [show kindP (⟨#[99, 48]⟩ : ByteArray).data.toList = (2, 0, true) by decide] at q1
  have q2 := Lib.hid (fun w => Kind_any ⟨#[115, 48, 49]⟩ (by decide) w)
  rw [show kindP (⟨#[115, 48, 49]⟩ : ByteArray).data.toList = (0, 0, false) by decide] at q2
  have q3 := Lib.hid (fun w => Segment_any 12 (by unfold I64; omega) w)
  rw [show nameP 115 12 = [115, 49, 50] by rw [show (12 : Int) = ((12 : Nat) : Int) from rfl, nameP_of _ _ (by decide), dec_12]] at q3
  have q4 := Lib.hid (fun w => Heads_any w)
  go_enter Tryd.func9, Tryd.ntmps9
  go_wp2_with fail
  refine q1.out.mono ?_
  rintro e w1 ⟨rfl, hb⟩
  have HB1 := Lib.hid hb
  clear hb
  go_wp2_with fail
  refine (q2.out w1).mono ?_
  rintro e w2 ⟨rfl, hb⟩
  have HB2 := Lib.hid (HB1.out.trans (hb.mono HB1.out.size))
  clear hb
  have hT2 := Lib.hid (hT.out.call HB2.out)
  go_wp2_with fail
  refine (q3.out w2 hT2).mono ?_
  rintro e w3 ⟨rfl, hb⟩
  have HB3 := Lib.hid (HB2.out.trans (hb.mono HB2.out.size))
  clear hb
  go_wp2_with fail
  refine (q4.out w3).mono ?_
  rintro e w4 ⟨rfl, rfl⟩
  go_wp2_with fail
  go_ret
  exact ⟨rfl, HB3.out⟩

set_option maxRecDepth 100000 in
set_option maxHeartbeats 1000000 in
theorem ShelfKinds_walk (s : ByteArray) (w : World) (hT : Hid (TabW w)) (hs : s.size ≤ 9223372036854775807) :
    Calls Tryd.prog 3 #[.string s] w fun e w' => e = .returned (.bool true) ∧ Below w.heap.size w w' := by
  have a0 := Lib.hid (alive10 w hT)
  by_cases h3 : 300 < s.size
  · have t1 : decide ((300 : Int) < (s.size : Int)) = true := decide_eq_true (by omega)
    clear h3
    go_enter Tryd.func3, Tryd.ntmps3
    go_wp2_with fail
    refine a0.out.mono ?_
    rintro e w1 ⟨rfl, hb⟩
    have HB1 := Lib.hid hb
    clear hb
    go_wp2_with fail
    go_ret
    exact ⟨rfl, HB1.out⟩
  · have t1 : decide ((300 : Int) < (s.size : Int)) = false := decide_eq_false (by omega)
    have q1 := Lib.hid (fun w => Kind_any s (by omega) w)
    have q2 := Lib.hid (fun w => rKind_any s (by omega) w)
    rw [kinds_one] at q1
    generalize kindR s.data.toList = z at *
    obtain ⟨x, y, c⟩ := z
    go_enter Tryd.func3, Tryd.ntmps3
    go_wp2_with fail
    refine a0.out.mono ?_
    rintro e w1 ⟨rfl, hb⟩
    have HB1 := Lib.hid hb
    clear hb
    go_wp2_with fail
    refine (q1.out w1).mono ?_
    rintro e w2 ⟨rfl, hb⟩
    have HB2 := Lib.hid (HB1.out.trans (hb.mono HB1.out.size))
    clear hb
    go_wp2_with fail
    refine (q2.out w2).mono ?_
    rintro e w3 ⟨rfl, rfl⟩
    go_wp2_with fail
    go_ret
    exact ⟨by simp, HB2.out⟩

theorem kindP_name (c : UInt8) (k : Int) (hc : c = 115 ∧ k = 1 ∨ c = 99 ∧ k = 2) (n : Nat) (hn : n ≤ 1099511627776) : kindP (c :: Lib.decDigits n) = (k, (n : Int), true) := by
  have hh : ¬ c :: Lib.decDigits n = headsL := by
    intro h
    unfold headsL at h
    rcases hc with ⟨rfl, _⟩ | ⟨rfl, _⟩ <;> (injection h with h1 _; exact absurd h1 (by decide))
  unfold kindP
  rw [if_neg hh]
  simp only [numP_dec hn, true_and]
  rcases hc with ⟨rfl, rfl⟩ | ⟨rfl, rfl⟩
  · rw [if_pos (by decide)]
  · rw [if_neg (by decide), if_pos (by decide)]

set_option maxRecDepth 100000 in
set_option maxHeartbeats 1000000 in
theorem ShelfNames_walk (n : Int) (w : World) (hT : Hid (TabW w)) (hn : Hid (I64 n)) :
    Calls Tryd.prog 4 #[.int .i64 n] w fun e w' => e = .returned (.bool true) ∧ Below w.heap.size w w' := by
  have a0 := Lib.hid (alive10 w hT)
  have q1 := Lib.hid (fun w => Segment_any n hn.out w)
  have q2 := Lib.hid (fun w => Column_any n hn.out w)
  have q3 := Lib.hid (fun w => rSegment_any n hn.out w)
  have q4 := Lib.hid (fun w => rColumn_any n hn.out w)
  have hni := hn.out
  unfold I64 at hni
  by_cases hout : n < 0 ∨ 1099511627776 < n
  · rw [show nameP 115 n = [] from if_pos hout] at q1 q3
    rw [show nameP 99 n = [] from if_pos hout] at q2 q4
    go_enter Tryd.func4, Tryd.ntmps4
    go_wp2_with fail
    refine a0.out.mono ?_
    rintro e w1 ⟨rfl, hb⟩
    have HB1 := Lib.hid hb
    clear hb
    go_wp2_with fail
    refine (q1.out w1 (Lib.hid (hT.out.call HB1.out))).mono ?_
    rintro e w2 ⟨rfl, hb⟩
    have HB2 := Lib.hid (HB1.out.trans (hb.mono HB1.out.size))
    clear hb
    go_wp2_with fail
    refine (q2.out w2 (Lib.hid (hT.out.call HB2.out))).mono ?_
    rintro e w3 ⟨rfl, hb⟩
    have HB3 := Lib.hid (HB2.out.trans (hb.mono HB2.out.size))
    clear hb
    go_wp2_with fail
    refine (q3.out w3).mono ?_
    rintro e w4 ⟨rfl, rfl⟩
    go_wp2_with fail
    refine (q4.out _).mono ?_
    rintro e w5 ⟨rfl, rfl⟩
    by_cases h0 : n < 0
    · have t1 : decide (n < 0) = true := decide_eq_true h0
      clear hout h0
      go_wp2_with fail
      go_ret
      exact ⟨rfl, HB3.out⟩
    · have t1 : decide (n < 0) = false := decide_eq_false h0
      have t2 : decide (1099511627776 < n) = true := decide_eq_true (by omega)
      clear hout h0
      go_wp2_with fail
      go_ret
      exact ⟨rfl, HB3.out⟩
  · obtain ⟨m, rfl⟩ : ∃ m : Nat, n = m := ⟨n.toNat, by omega⟩
    have hm : m ≤ 1099511627776 := by omega
    have hdl := dec_short hm
    rw [nameP_of 115 m hm] at q1 q3
    rw [nameP_of 99 m hm] at q2 q4
    have q5 := Lib.hid (fun w => Kind_any ⟨(115 :: Lib.decDigits m).toArray⟩ (by simp [ByteArray.size]; omega) w)
    have q6 := Lib.hid (fun w => Kind_any ⟨(99 :: Lib.decDigits m).toArray⟩ (by simp [ByteArray.size]; omega) w)
    rw [show kindP (⟨(115 :: Lib.decDigits m).toArray⟩ : ByteArray).data.toList = (1, (m : Int), true) from kindP_name 115 1 (.inl ⟨rfl, rfl⟩) m hm] at q5
    rw [show kindP (⟨(99 :: Lib.decDigits m).toArray⟩ : ByteArray).data.toList = (2, (m : Int), true) from kindP_name 99 2 (.inr ⟨rfl, rfl⟩) m hm] at q6
    clear hout
    go_enter Tryd.func4, Tryd.ntmps4
    go_wp2_with fail
    refine a0.out.mono ?_
    rintro e w1 ⟨rfl, hb⟩
    have HB1 := Lib.hid hb
    clear hb
    go_wp2_with fail
    refine (q1.out w1 (Lib.hid (hT.out.call HB1.out))).mono ?_
    rintro e w2 ⟨rfl, hb⟩
    have HB2 := Lib.hid (HB1.out.trans (hb.mono HB1.out.size))
    clear hb
    go_wp2_with fail
    refine (q2.out w2 (Lib.hid (hT.out.call HB2.out))).mono ?_
    rintro e w3 ⟨rfl, hb⟩
    have HB3 := Lib.hid (HB2.out.trans (hb.mono HB2.out.size))
    clear hb
    go_wp2_with fail
    refine (q3.out w3).mono ?_
    rintro e w4 ⟨rfl, rfl⟩
    go_wp2_with fail
    refine (q4.out _).mono ?_
    rintro e w5 ⟨rfl, rfl⟩
    go_wp2_with fail
    refine (q5.out _).mono ?_
    rintro e w6 ⟨rfl, hb⟩
    have HB4 := Lib.hid (HB3.out.trans (hb.mono HB3.out.size))
    clear hb
    go_wp2_with fail
    refine (q6.out _).mono ?_
    rintro e w7 ⟨rfl, hb⟩
    have HB5 := Lib.hid (HB4.out.trans (hb.mono HB4.out.size))
    clear hb
    go_wp2_with fail
    go_ret
    exact ⟨by simp, HB5.out⟩
end Go.Proofs.YteeemoknbnlopaaDoor
