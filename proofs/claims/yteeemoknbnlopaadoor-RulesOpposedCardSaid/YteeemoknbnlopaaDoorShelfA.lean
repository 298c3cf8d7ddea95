/- shelf.number. -/
import Derived.Test.YteeemoknbnlopaaDoorShelfP
import Derived.Test.YteeemoknbnlopaaDoorChecked
import Derived.Test.YteeemoknbnlopaaDoorBlk
import Derived.Test.YteeemoknbnlopaaDoorPlain
import Derived.Lib.OthersKept
import Derived.Laws.RangeAny
namespace Go.Proofs.YteeemoknbnlopaaDoor
open Go Go.RowKit Shelf
set_option linter.unusedVariables false

theorem drop_at (s : ByteArray) (q : Nat) (h : q < s.size) : s.data.toList.drop q = s[q] :: s.data.toList.drop (q + 1) := by
  rw [List.drop_eq_getElem_cons (by simpa using h)]; rfl

set_option maxRecDepth 100000 in
set_option maxHeartbeats 1000000 in
theorem number_any (s : ByteArray) (hs : s.size ≤ 1099511627776) (w : World) :
    Calls Tryd.prog 32 #[.string s] w fun e w' => e = .returned (.tuple #[.int .i64 (numP s.data.toList).1, .bool (numP s.data.toList).2]) ∧ Below w.heap.size w w' := by
  have hk0 : (w.iter s 0).heap[w.heap.size]? = some (.stringIter s 0) := World.iter_heap w s 0
  have hb0 : Below w.heap.size w (w.iter s 0) := (Below.refl _ w).alloc (Nat.le_refl _) _
  go_enter Tryd.func32, Tryd.ntmps32
  go_wp2_with fail
  go_loopw [4, 5, 6] (fun s4 s5 s6 wr => ∃ (pos n : Nat), pos ≤ s.size ∧ s4 = .int .i64 (n : Int) ∧ n ≤ 1099511627776 ∧ Hid (wr.heap[w.heap.size]? = some (.stringIter s pos)) ∧ Hid (goN s.data.toList 0 0 = goN (s.data.toList.drop pos) n pos) ∧ Hid (Below w.heap.size w wr))
    (fun _ _ _ wr => s.size - wr.iterPos w.heap.size)
  case atStart => exact ⟨0, 0, Nat.zero_le _, rfl, by omega, hk0, rfl, hb0⟩
  case round =>
    obtain ⟨pos, n, hps, rfl, hn, HK, HG, HB⟩ := hrel
    clear hb0 hk0
    have hnone : goN s.data.toList 0 0 = none → numP s.data.toList = (0, false) := fun h => by unfold numP; rw [h]
    have hsome : ∀ m, goN s.data.toList 0 0 = some m → numP s.data.toList = ((m : Int), decide (s.data.toList ≠ [])) := fun m h => by unfold numP; rw [h]
    by_cases hp : pos < s.size
    · have hG := HG.out
      rw [drop_at s pos hp] at hG
      generalize goN s.data.toList 0 0 = g0 at hG hnone hsome HG
      unfold goN at hG
      have hmu : wr.iterPos w.heap.size = pos := by simp [World.iterPos, HK.out]
      have hb8 : s[pos].toNat < 256 := s[pos].toNat_lt
      by_cases h128 : s[pos].toNat < 128
      · have hnext : ∀ ty, (Instr.next (.pointer (some ⟨w.heap.size, 0, none⟩)) true ty).run Tryd.prog wr = _ := fun ty => Lib.run_next_ascii_at wr w.heap.size s pos ty HK.out hp h128
        have hk1 := Lib.hid (Lib.iterAt_heap wr w.heap.size s pos (pos + 1) HK.out)
        have hb1 := Lib.hid (Lib.below_iterAt HB.out (Nat.le_refl _) s (pos + 1))
        generalize wr.iterAt w.heap.size s (pos + 1) = W1 at hnext hk1 hb1
        obtain ⟨b, hb⟩ : ∃ b, s[pos].toNat = b := ⟨_, rfl⟩
        rw [hb] at hnext hb8 h128 hG
        clear hb
        by_cases h48 : b < 48
        · rw [if_pos (.inl h48)] at hG
          have HN := Lib.hid (hnone hG)
          have t1 : decide ((b : Int) < 48) = true := decide_eq_true (by omega)
          clear hG h48 hnone hsome
          go_wp2_with fail
          go_ret2
          exact ⟨by rw [HN.out]; rfl, hb1.out⟩
        · by_cases h57 : 57 < b
          · rw [if_pos (.inr (.inl h57))] at hG
            have HN := Lib.hid (hnone hG)
            have t1 : decide ((b : Int) < 48) = false := decide_eq_false (by omega)
            have t2 : decide (57 < (b : Int)) = true := decide_eq_true (by omega)
            clear hG h48 h57 hnone hsome
            go_wp2_with fail
            go_ret2
            exact ⟨by rw [HN.out]; rfl, hb1.out⟩
          · have t1 : decide ((b : Int) < 48) = false := decide_eq_false (by omega)
            have t2 : decide (57 < (b : Int)) = false := decide_eq_false (by omega)
            by_cases hz : 0 < pos ∧ n = 0
            · rw [if_pos (.inr (.inr hz))] at hG
              have HN := Lib.hid (hnone hG)
              have t3 : decide (0 < (pos : Int)) = true := decide_eq_true (by omega)
              have t4 : ((n : Int) == 0) = true := by simp; omega
              obtain ⟨hz1, hz2⟩ := hz
              clear hG h48 h57 hnone hsome
              go_wp2_with fail
              go_ret2
              exact ⟨by rw [HN.out]; rfl, hb1.out⟩
            · rw [if_neg (by omega)] at hG
              obtain ⟨m, hm⟩ : ∃ m, 10 * n + (b - 48) = m := ⟨_, rfl⟩
              rw [hm] at hG
              have hmi : 10 * (n : Int) + ((b : Int) - 48) = (m : Int) := by omega
              have hHM := Lib.hid (show 10 * n + (b - 48) = m from hm)
              have hb10 : (b : Int) - 48 < 10 := by omega
              have hb11 : 0 ≤ (b : Int) - 48 := by omega
              have hm16 : m < 16000000000000 := by omega
              by_cases hbig : 1099511627776 < m
              · rw [if_pos hbig] at hG
                have HN := Lib.hid (hnone hG)
                have t5 : decide (1099511627776 < (m : Int)) = true := decide_eq_true (by omega)
                by_cases hp0 : 0 < pos
                · have t3 : decide (0 < (pos : Int)) = true := decide_eq_true (by omega)
                  have t4 : ((n : Int) == 0) = false := by simp; omega
                  clear hG h48 h57 hnone hsome hz hm hbig
                  go_wp2_with fail
                  go_ret2
                  exact ⟨by rw [HN.out]; rfl, hb1.out⟩
                · have t3 : decide (0 < (pos : Int)) = false := decide_eq_false (by omega)
                  clear hG h48 h57 hnone hsome hz hm hbig
                  go_wp2_with fail
                  go_ret2
                  exact ⟨by rw [HN.out]; rfl, hb1.out⟩
              · rw [if_neg hbig] at hG
                have t5 : decide (1099511627776 < (m : Int)) = false := decide_eq_false (by omega)
                have hle : m ≤ 1099511627776 := by omega
                have hG2 := Lib.hid (HG.out.trans (HG.out.symm.trans hG))
                by_cases hp0 : 0 < pos
                · have t3 : decide (0 < (pos : Int)) = true := decide_eq_true (by omega)
                  have t4 : ((n : Int) == 0) = false := by simp; omega
                  clear hG h48 h57 hnone hsome hz hm hbig
                  go_wp2_with fail
                  go_roundw
                  case rel => exact ⟨pos + 1, m, by omega, rfl, by omega, hk1.out, hG2.out, hb1.out⟩
                  case measure => rw [hmu, show W1.iterPos w.heap.size = pos + 1 by simp [World.iterPos, hk1.out]]; omega
                · have t3 : decide (0 < (pos : Int)) = false := decide_eq_false (by omega)
                  clear hG h48 h57 hnone hsome hz hm hbig
                  go_wp2_with fail
                  go_roundw
                  case rel => exact ⟨pos + 1, m, by omega, rfl, by omega, hk1.out, hG2.out, hb1.out⟩
                  case measure => rw [hmu, show W1.iterPos w.heap.size = pos + 1 by simp [World.iterPos, hk1.out]]; omega
      · have hdh := decode_high s pos hp (by omega)
        rw [if_pos (by omega)] at hG
        have HN := Lib.hid (hnone hG)
        have hnext : ∀ ty, (Instr.next (.pointer (some ⟨w.heap.size, 0, none⟩)) true ty).run Tryd.prog wr = _ := fun ty => Lib.run_next_any_at wr w.heap.size s pos ty HK.out hp
        have hb1 := Lib.hid (Lib.below_iterAt HB.out (Nat.le_refl _) s (pos + (Utf8.decode s pos).2))
        generalize wr.iterAt w.heap.size s (pos + (Utf8.decode s pos).2) = W1 at hnext hb1
        obtain ⟨b, hb⟩ : ∃ b, (Utf8.decode s pos).1 = b := ⟨_, rfl⟩
        rw [hb] at hnext hdh
        have t1 : decide ((b : Int) < 48) = false := decide_eq_false (by omega)
        have t2 : decide (57 < (b : Int)) = true := decide_eq_true (by omega)
        clear hb hG hnone hsome hdh h128 hb8
        go_wp2_with fail
        go_ret2
        exact ⟨by rw [HN.out]; rfl, hb1.out⟩
    · have hend : goN s.data.toList 0 0 = some n := by rw [HG.out, List.drop_of_length_le (by simp; omega)]; rfl
      have HN := Lib.hid (hsome n hend)
      have hnext : ∀ ty, (Instr.next (.pointer (some ⟨w.heap.size, 0, none⟩)) true ty).run Tryd.prog wr = _ := fun ty => Lib.run_next_end_at wr w.heap.size s pos ty HK.out hp
      clear hnone hsome hend
      have hne : Hid ((!s.toList.isEmpty) = decide (s.data.toList ≠ [])) := by
        show _ = _
        rw [ByteArray.toList_eq]
        generalize s.data.toList = l
        cases l <;> rfl
      go_wp2_with fail
      go_ret2
      exact ⟨by rw [HN.out, ← hne.out]; rfl, HB.out⟩
end Go.Proofs.YteeemoknbnlopaaDoor
