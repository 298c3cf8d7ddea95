/- The reference's Kind. -/
import Derived.Test.YteeemoknbnlopaaDoorShelfC
namespace Go.Proofs.YteeemoknbnlopaaDoor
open Go Go.RowKit Shelf
set_option linter.unusedVariables false

theorem goR_cons (c : UInt8) (l : List UInt8) (n : Nat) : goR (c :: l) n = if c.toNat < 48 ∨ 57 < c.toNat then none else goR l (10 * n + (c.toNat - 48)) := rfl
theorem drop_tail (s : ByteArray) (b : UInt8) (r : List UInt8) (h : s.data.toList = b :: r) (i : Nat) (h1 : 1 ≤ i) (hi : i < s.size) : r.drop (i - 1) = s[i] :: r.drop i := by
  have := drop_at s i hi
  rw [h] at this
  obtain ⟨j, rfl⟩ : ∃ j, i = j + 1 := ⟨i - 1, by omega⟩
  simpa using this

set_option maxRecDepth 100000 in
set_option maxHeartbeats 2000000 in
theorem rKind_any (s : ByteArray) (hs : s.size ≤ 1099511627776) (w : World) :
    Calls Tryd.prog 11 #[.string s] w fun e w' => e = .returned (.tuple #[.int .i64 (kindR s.data.toList).1, .int .i64 (kindR s.data.toList).2.1, .bool (kindR s.data.toList).2.2]) ∧ w' = w := by
  have hte := ByteArray.toList_eq s
  have hle := show s.data.toList.length = s.size from by simp
  by_cases hh : s.data.toList = headsL
  · have t1 : (s.toList == [104, 101, 97, 100, 115]) = true := by rw [hte, hh]; decide
    have hk : Hid (kindR s.data.toList = (3, 0, true)) := if_pos hh
    clear hh hte hle
    go_enter Tryd.func11, Tryd.ntmps11
    go_wp2_with fail
    go_ret3
    exact ⟨by rw [hk.out]; rfl, rfl⟩
  · have t1 : (s.toList == [104, 101, 97, 100, 115]) = false := by
      rw [hte]
      exact beq_eq_false_iff_ne.2 hh
    match hl : s.data.toList with
    | [] =>
      have t2 : decide ((s.size : Int) < 2) = true := decide_eq_true (by rw [hl] at hle; simp at hle; omega)
      have hk : Hid (kindR [] = (0, 0, false)) := rfl
      clear hh hte hl hle
      go_enter Tryd.func11, Tryd.ntmps11
      go_wp2_with fail
      go_ret3
      exact ⟨by rw [hk.out]; rfl, rfl⟩
    | b :: r =>
      have hsz : s.size = r.length + 1 := by rw [hl] at hle; simpa using hle.symm
      have h1 : 1 ≤ s.size := by omega
      have hb : s[0].toNat = b.toNat := by
        have : s[0] = s.data.toList[0]'(by rw [hl]; simp) := rfl
        rw [this]; simp [hl]
      have hk : Hid (kindR (b :: r) = (if (b :: r).length < 2 ∨ 14 < (b :: r).length ∨ (b.toNat ≠ 115 ∧ b.toNat ≠ 99) then (0, 0, false)
          else match goR r 0 with
            | none => (0, 0, false)
            | some n => if 1099511627776 < n then (0, 0, false) else if 115 :: Lib.decDigits n = b :: r then (1, (n : Int), true) else if 99 :: Lib.decDigits n = b :: r then (2, (n : Int), true) else (0, 0, false) : Int × Int × Bool)) := by
        show _ = _
        unfold kindR
        rw [if_neg (by rw [← hl]; exact hh)]
        rfl
      have hlc : (b :: r).length = s.size := by simp [hsz]
      rw [hlc] at hk
      by_cases g1 : s.size < 2
      · have t2 : decide ((s.size : Int) < 2) = true := decide_eq_true (by omega)
        have hk2 : Hid (kindR (b :: r) = (0, 0, false)) := hk.out.trans (if_pos (.inl g1))
        clear hh hte hl hle hk hsz hlc g1 hb
        go_enter Tryd.func11, Tryd.ntmps11
        go_wp2_with fail
        go_ret3
        exact ⟨by rw [hk2.out]; rfl, rfl⟩
      have t2 : decide ((s.size : Int) < 2) = false := decide_eq_false (by omega)
      by_cases g2 : 14 < s.size
      · have t3 : decide ((14 : Int) < (s.size : Int)) = true := decide_eq_true (by omega)
        have hk2 : Hid (kindR (b :: r) = (0, 0, false)) := hk.out.trans (if_pos (.inr (.inl g2)))
        clear hh hte hl hle hk hsz hlc g1 g2 hb
        go_enter Tryd.func11, Tryd.ntmps11
        go_wp2_with fail
        go_ret3
        exact ⟨by rw [hk2.out]; rfl, rfl⟩
      have t3 : decide ((14 : Int) < (s.size : Int)) = false := decide_eq_false (by omega)
      by_cases g3 : b.toNat ≠ 115 ∧ b.toNat ≠ 99
      · have t4 : ((s[0].toNat : Int) != 115) = true := by rw [hb]; exact bne_iff_ne.2 (by omega)
        have t5 : ((s[0].toNat : Int) != 99) = true := by rw [hb]; exact bne_iff_ne.2 (by omega)
        have hk2 : Hid (kindR (b :: r) = (0, 0, false)) := hk.out.trans (if_pos (.inr (.inr g3)))
        clear hh hte hl hle hk hsz hlc g1 g2 g3 hb
        go_enter Tryd.func11, Tryd.ntmps11
        go_wp2_with fail
        go_ret3
        exact ⟨by rw [hk2.out]; rfl, rfl⟩
      have hk3 := Lib.hid (hk.out.trans (if_neg (by omega)))
      clear hk
      have hG0 : Hid (goR r 0 = goR (r.drop (1 - 1)) 0) := rfl
      have hcase : b.toNat = 115 ∨ b.toNat = 99 := by omega
      have hszH := Lib.hid hsz
      clear hh hte hle hlc g3 g1 hsz
      rcases hcase with hc | hc
      all_goals
        first
        | (have t4 : ((s[0].toNat : Int) != 115) = false := by rw [hb, hc]; decide)
        | (have t4 : ((s[0].toNat : Int) != 115) = true := by rw [hb, hc]; decide
           have t5 : ((s[0].toNat : Int) != 99) = false := by rw [hb, hc]; decide)
        clear hc hb
        go_enter Tryd.func11, Tryd.ntmps11
        go_wp2_with fail
        go_loopw [5, 6] (fun s5 s6 wr => ∃ (m i : Nat), 1 ≤ i ∧ i ≤ s.size ∧ s5 = .int .i64 m ∧ s6 = .int .i64 i ∧ Hid (m < 10 ^ (i - 1)) ∧ Hid (goR r 0 = goR (r.drop (i - 1)) m) ∧ wr = w) (fun _ s6 _ => s.size - (intOf s6).toNat)
        case atStart => exact ⟨0, 1, by omega, by omega, rfl, rfl, by show _ < _; decide, hG0, rfl⟩
        case round =>
          obtain ⟨m, i, hi1, his, rfl, rfl, hm, hG, rfl⟩ := hrel
          have h13 : m < 10000000000000 := by
            have e1 := hm.out
            have e2 : 10 ^ (i - 1) ≤ 10 ^ 13 := Nat.pow_le_pow_right (by decide) (by omega)
            have e3 : (10 : Nat) ^ 13 = 10000000000000 := by decide
            omega
          by_cases hi : i < s.size
          · have hGc := hG.out
            rw [drop_tail s b r hl i hi1 hi] at hGc
            have hb8 : s[i].toNat < 256 := s[i].toNat_lt
            rw [goR_cons] at hGc
            by_cases h48 : s[i].toNat < 48
            · have u1 : decide ((s[i].toNat : Int) < 48) = true := decide_eq_true (by omega)
              have hg := hGc.trans (if_pos (.inl h48))
              have hk4 : Hid (kindR (b :: r) = (0, 0, false)) := by show _ = _; rw [hk3.out, hg]
              clear hG hGc hg h48
              go_wp2_with fail
              go_ret3
              exact ⟨by rw [hk4.out]; rfl, rfl⟩
            · have u1 : decide ((s[i].toNat : Int) < 48) = false := decide_eq_false (by omega)
              by_cases h57 : 57 < s[i].toNat
              · have u2 : decide ((57 : Int) < (s[i].toNat : Int)) = true := decide_eq_true (by omega)
                have hg := hGc.trans (if_pos (.inr h57))
                have hk4 : Hid (kindR (b :: r) = (0, 0, false)) := by show _ = _; rw [hk3.out, hg]
                clear hG hGc hg h48 h57
                go_wp2_with fail
                go_ret3
                exact ⟨by rw [hk4.out]; rfl, rfl⟩
              · have u2 : decide ((57 : Int) < (s[i].toNat : Int)) = false := decide_eq_false (by omega)
                have hg := Lib.hid (hGc.trans (if_neg (by omega)))
                have hm2 : Hid (10 * m + (s[i].toNat - 48) < 10 ^ (i + 1 - 1)) := by
                  show _ < _
                  have e1 := hm.out
                  have e4 : 10 ^ (i + 1 - 1) = 10 ^ (i - 1) * 10 := by rw [show i + 1 - 1 = (i - 1) + 1 by omega, Nat.pow_succ]
                  omega
                obtain ⟨x, hx⟩ : ∃ x, s[i].toNat - 48 = x := ⟨_, rfl⟩
                have hsx : s[i].toNat = x + 48 := by omega
                rw [hx] at hg hm2
                have hx10 : x < 10 := by omega
                have hxi : (s[i].toNat : Int) = (x : Int) + 48 := by omega
                clear hG hGc h48 h57 hx hb8
                go_wp2_with fail
                go_roundw
                case rel => exact ⟨10 * m + x, i + 1, by omega, by omega, by go_num, by go_num, hm2.out, hg.out, trivial⟩
                case measure => simp [intOf]; omega
          · have hGc : goR r 0 = some m := by
              rw [hG.out, List.drop_of_length_le (by have := hszH.out; omega)]; rfl
            have hk4 : Hid (kindR (b :: r) = (if 1099511627776 < m then (0, 0, false) else if 115 :: Lib.decDigits m = b :: r then (1, (m : Int), true) else if 99 :: Lib.decDigits m = b :: r then (2, (m : Int), true) else (0, 0, false) : Int × Int × Bool)) := by
              show _ = _
              rw [hk3.out, hGc]
            clear hG hGc
            by_cases hbig : 1099511627776 < m
            · have u1 : decide ((1099511627776 : Int) < (m : Int)) = true := decide_eq_true (by omega)
              have hk5 := Lib.hid (hk4.out.trans (if_pos hbig))
              clear hbig
              go_wp2_with fail
              go_ret3
              exact ⟨by rw [hk5.out]; rfl, rfl⟩
            · have u1 : decide ((1099511627776 : Int) < (m : Int)) = false := decide_eq_false (by omega)
              have hk5 := Lib.hid (hk4.out.trans (if_neg hbig))
              have q1 := Lib.hid (rSegment_any m (by unfold I64; omega) wr)
              have q2 := Lib.hid (rColumn_any m (by unfold I64; omega) wr)
              rw [nameP_of 115 m (by omega)] at q1
              rw [nameP_of 99 m (by omega)] at q2
              have hse : s.toList = b :: r := (ByteArray.toList_eq s).trans hl
              have hdl := dec_short (show m ≤ 1099511627776 by omega)
              clear hbig hk4 hk3
              by_cases e1 : 115 :: Lib.decDigits m = b :: r
              · have t6 : (115 :: Lib.decDigits m == s.toList) = true := by rw [hse]; exact beq_iff_eq.2 e1
                have hk6 := Lib.hid (hk5.out.trans (if_pos e1))
                clear hk5 e1 hse hl
                go_wp2_with fail
                refine q1.out.mono ?_
                rintro e w' ⟨rfl, rfl⟩
                go_wp2_with fail
                go_ret3
                exact ⟨by rw [hk6.out]; rfl, rfl⟩
              · have t6 : (115 :: Lib.decDigits m == s.toList) = false := by rw [hse]; exact beq_eq_false_iff_ne.2 e1
                have hk6 := Lib.hid (hk5.out.trans (if_neg e1))
                clear hk5 e1
                by_cases e2 : 99 :: Lib.decDigits m = b :: r
                · have t7 : (99 :: Lib.decDigits m == s.toList) = true := by rw [hse]; exact beq_iff_eq.2 e2
                  have hk7 := Lib.hid (hk6.out.trans (if_pos e2))
                  clear hk6 e2 hse hl
                  go_wp2_with fail
                  refine q1.out.mono ?_
                  rintro e w' ⟨rfl, rfl⟩
                  go_wp2_with fail
                  refine q2.out.mono ?_
                  rintro e w' ⟨rfl, rfl⟩
                  go_wp2_with fail
                  go_ret3
                  exact ⟨by rw [hk7.out]; rfl, rfl⟩
                · have t7 : (99 :: Lib.decDigits m == s.toList) = false := by rw [hse]; exact beq_eq_false_iff_ne.2 e2
                  have hk7 := Lib.hid (hk6.out.trans (if_neg e2))
                  clear hk6 e2 hse hl
                  go_wp2_with fail
                  refine q1.out.mono ?_
                  rintro e w' ⟨rfl, rfl⟩
                  go_wp2_with fail
                  refine q2.out.mono ?_
                  rintro e w' ⟨rfl, rfl⟩
                  go_wp2_with fail
                  go_ret3
                  exact ⟨by rw [hk7.out]; rfl, rfl⟩
end Go.Proofs.YteeemoknbnlopaaDoor
