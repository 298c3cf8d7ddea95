/- shelf.Kind; the reference's Kind. -/
import Derived.Test.YteeemoknbnlopaaDoorShelfB
namespace Go.Proofs.YteeemoknbnlopaaDoor
open Go Go.RowKit Shelf
set_option linter.unusedVariables false

theorem extract_tail (s : ByteArray) (b : UInt8) (r : List UInt8) (h : s.data.toList = b :: r) : (s.extract 1 s.size).data.toList = r := by
  have hs : s.size = r.length + 1 := by
    have := congrArg List.length h
    simpa using this
  simp [ByteArray.extract, ByteArray.copySlice, h, hs]

set_option maxRecDepth 100000 in
set_option maxHeartbeats 1000000 in
theorem Kind_any (s : ByteArray) (hs : s.size ≤ 1099511627776) (w : World) :
    Calls Tryd.prog 10 #[.string s] w fun e w' => e = .returned (.tuple #[.int .i64 (kindP s.data.toList).1, .int .i64 (kindP s.data.toList).2.1, .bool (kindP s.data.toList).2.2]) ∧ Below w.heap.size w w' := by
  have hte := ByteArray.toList_eq s
  by_cases hh : s.data.toList = headsL
  · have t1 : (s.toList == [104, 101, 97, 100, 115]) = true := by rw [hte, hh]; decide
    have hk : Hid (kindP s.data.toList = (3, 0, true)) := if_pos hh
    clear hh hte
    go_enter Tryd.func10, Tryd.ntmps10
    go_wp2_with fail
    go_ret3
    exact ⟨by rw [hk.out]; rfl, Below.refl _ _⟩
  · have t1 : (s.toList == [104, 101, 97, 100, 115]) = false := by
      rw [hte]
      exact beq_eq_false_iff_ne.2 hh
    match hl : s.data.toList with
    | [] =>
      have t2 : s.toList.isEmpty = true := by rw [hte, hl]; rfl
      have hk : Hid (kindP [] = (0, 0, false)) := rfl
      clear hh hte hl
      go_enter Tryd.func10, Tryd.ntmps10
      go_wp2_with fail
      go_ret3
      exact ⟨by rw [hk.out]; rfl, Below.refl _ _⟩
    | b :: r =>
      have t2 : s.toList.isEmpty = false := by rw [hte, hl]; rfl
      have hsz : s.size = r.length + 1 := by
        have := congrArg List.length hl
        simpa using this
      have h1 : 1 ≤ s.size := by omega
      have q := Lib.hid (number_any (s.extract 1 s.size) (by simp; omega) w)
      rw [extract_tail s b r hl] at q
      have hb : s[0].toNat = b.toNat := by
        have : s[0] = s.data.toList[0]'(by rw [hl]; simp) := rfl
        rw [this]; simp [hl]
      have hk : Hid (kindP (b :: r) = if (numP r).2 = true ∧ b.toNat = 115 then (1, (numP r).1, true) else if (numP r).2 = true ∧ b.toNat = 99 then (2, (numP r).1, true) else (0, 0, false)) := by
        show _ = _
        unfold kindP
        rw [if_neg (by rw [← hl]; exact hh)]
      generalize b.toNat = c at *
      generalize numP r = z at *
      obtain ⟨nn, ok⟩ := z
      clear hh hte hl hsz
      cases ok with
      | false =>
        have hk2 : Hid (kindP (b :: r) = (0, 0, false)) := by
          show _ = _
          rw [hk.out, if_neg (by simp), if_neg (by simp)]
        clear hk
        go_enter Tryd.func10, Tryd.ntmps10
        go_wp2_with fail
        refine q.out.mono ?_
        rintro e w' ⟨rfl, hb⟩
        go_wp2_with fail
        go_ret3
        exact ⟨by rw [hk2.out]; rfl, hb⟩
      | true =>
        by_cases h5 : c = 115
        · have t3 : ((s[0].toNat : Int) == 115) = true := by rw [hb, h5]; decide
          have hk2 : Hid (kindP (b :: r) = (1, nn, true)) := by
            show _ = _
            rw [hk.out, if_pos ⟨rfl, h5⟩]
          clear hk h5 hb
          go_enter Tryd.func10, Tryd.ntmps10
          go_wp2_with fail
          refine q.out.mono ?_
          rintro e w' ⟨rfl, hb⟩
          go_wp2_with fail
          go_ret3
          exact ⟨by rw [hk2.out]; rfl, hb⟩
        · have t3 : ((s[0].toNat : Int) == 115) = false := by rw [hb]; exact beq_eq_false_iff_ne.2 (by omega)
          by_cases h9 : c = 99
          · have t4 : ((s[0].toNat : Int) == 99) = true := by rw [hb, h9]; decide
            have hk2 : Hid (kindP (b :: r) = (2, nn, true)) := by
              show _ = _
              rw [hk.out, if_neg (by omega), if_pos ⟨rfl, h9⟩]
            clear hk h5 h9 hb
            go_enter Tryd.func10, Tryd.ntmps10
            go_wp2_with fail
            refine q.out.mono ?_
            rintro e w' ⟨rfl, hb⟩
            go_wp2_with fail
            go_ret3
            exact ⟨by rw [hk2.out]; rfl, hb⟩
          · have t4 : ((s[0].toNat : Int) == 99) = false := by rw [hb]; exact beq_eq_false_iff_ne.2 (by omega)
            have hk2 : Hid (kindP (b :: r) = (0, 0, false)) := by
              show _ = _
              rw [hk.out, if_neg (by omega), if_neg (by omega)]
            clear hk h5 h9 hb
            go_enter Tryd.func10, Tryd.ntmps10
            go_wp2_with fail
            refine q.out.mono ?_
            rintro e w' ⟨rfl, hb⟩
            go_wp2_with fail
            go_ret3
            exact ⟨by rw [hk2.out]; rfl, hb⟩
end Go.Proofs.YteeemoknbnlopaaDoor
