/- A file's name: disk's named, the reference's Named. -/
import Derived.Test.YtaigngdlioplaaaDoorHasFn
import Derived.Test.YtaigngdlioplaaaDoorPlain
import Derived.Test.YtaigngdlioplaaaDoorLib
import Derived.Test.YtaigngdlioplaaaDoorBlk
import Derived.Laws.RangeAny
import Derived.Laws.RangeString
namespace Go.Proofs.YtaigngdlioplaaaDoor
open Go Go.RowKit Go.Shelf
set_option linter.unusedVariables false

def okN (c : Nat) : Bool := (decide (48 ≤ c) && decide (c ≤ 57)) || (decide (97 ≤ c) && decide (c ≤ 122))
def otherR (r : Nat) : Bool := (decide (r < 48) || decide (57 < r)) && (decide (r < 97) || decide (122 < r))
theorem other_ok (c : Nat) : otherR c = !okN c := by
  unfold otherR okN
  by_cases h1 : c < 48
  · rw [decide_eq_true h1, decide_eq_false (show ¬ 48 ≤ c by omega), decide_eq_true (show c < 97 by omega), decide_eq_false (show ¬ 97 ≤ c by omega)]; rfl
  · rw [decide_eq_false h1, decide_eq_true (show 48 ≤ c by omega)]
    by_cases h2 : 57 < c
    · rw [decide_eq_true h2, decide_eq_false (show ¬ c ≤ 57 by omega)]
      by_cases h3 : c < 97
      · rw [decide_eq_true h3, decide_eq_false (show ¬ 97 ≤ c by omega)]; rfl
      · rw [decide_eq_false h3, decide_eq_true (show 97 ≤ c by omega)]
        by_cases h4 : 122 < c
        · rw [decide_eq_true h4, decide_eq_false (show ¬ c ≤ 122 by omega)]; rfl
        · rw [decide_eq_false h4, decide_eq_true (show c ≤ 122 by omega)]; rfl
    · rw [decide_eq_false h2, decide_eq_true (show c ≤ 57 by omega)]; rfl
theorem other_high {c : Nat} (h : 128 ≤ c) : otherR c = true := by
  rw [other_ok]; unfold okN
  rw [decide_eq_false (show ¬ c ≤ 57 by omega), decide_eq_false (show ¬ c ≤ 122 by omega)]; simp
def okByte (c : UInt8) : Bool := okN c.toNat
theorem idx_other (s : ByteArray) : ∀ (f pos : Nat), s.size ≤ pos + f → (decide (0 ≤ Lib.idxFuncFrom otherR true s f pos)) = !((s.data.toList.drop pos).all okByte)
  | 0, pos, h => by
    rw [List.drop_of_length_le (by simpa using h)]; rfl
  | f + 1, pos, h => by
    unfold Lib.idxFuncFrom
    by_cases hp : pos < s.size
    · rw [if_pos hp]
      have hd : s.data.toList.drop pos = s[pos] :: s.data.toList.drop (pos + 1) := List.drop_eq_getElem_cons (by simpa using hp)
      rw [hd, List.all_cons]
      by_cases hc : (s[pos]'hp).toNat < 128
      · rw [decode_ascii s pos hp hc]
        simp only []
        by_cases ho : okByte s[pos] = true
        · have : otherR (s[pos]'hp).toNat = false := by rw [other_ok]; unfold okByte at ho; rw [ho]; rfl
          rw [this, if_neg (by simp), ho, Bool.true_and]
          exact idx_other s f (pos + 1) (by omega)
        · have ho : okByte s[pos] = false := by simpa using ho
          have : otherR (s[pos]'hp).toNat = true := by rw [other_ok]; unfold okByte at ho; rw [ho]; rfl
          rw [this, if_pos rfl, ho, decide_eq_true (by omega)]; rfl
      · have hh := (decode_high s pos hp (by omega)).1
        have ho : okByte s[pos] = false := by
          have := other_high (c := (s[pos]'hp).toNat) (by omega)
          rw [other_ok] at this
          unfold okByte
          simpa using this
        rw [other_high hh, if_pos rfl, ho, decide_eq_true (by omega)]; rfl
    · rw [if_neg hp, List.drop_of_length_le (by simp; omega)]; rfl
/-- Is it a file's name? -/
def namedS (s : ByteArray) : Bool := decide (1 ≤ s.size ∧ s.size ≤ 16) && s.data.toList.all okByte

set_option maxRecDepth 100000 in
theorem other_any (x : Nat) (w : World) : Calls Tryd.prog 120 #[.int .i32 x] w fun e w' => e = .returned (.bool (otherR x)) ∧ w = w' := by
  unfold otherR
  obtain ⟨z1, h1⟩ : ∃ z, decide (x < 48) = z := ⟨_, rfl⟩
  obtain ⟨z2, h2⟩ : ∃ z, decide (57 < x) = z := ⟨_, rfl⟩
  obtain ⟨z3, h3⟩ : ∃ z, decide (x < 97) = z := ⟨_, rfl⟩
  obtain ⟨z4, h4⟩ : ∃ z, decide (122 < x) = z := ⟨_, rfl⟩
  have t1 : decide ((x : Int) < 48) = z1 := by rw [← h1]; exact decide_eq_decide.2 (by omega)
  have t2 : decide (57 < (x : Int)) = z2 := by rw [← h2]; exact decide_eq_decide.2 (by omega)
  have t3 : decide ((x : Int) < 97) = z3 := by rw [← h3]; exact decide_eq_decide.2 (by omega)
  have t4 : decide (122 < (x : Int)) = z4 := by rw [← h4]; exact decide_eq_decide.2 (by omega)
  rw [h1, h2, h3, h4]
  clear h1 h2 h3 h4
  cases z1 <;> cases z2 <;> cases z3 <;> cases z4
  all_goals
    go_enter Tryd.func120, Tryd.ntmps120
    go_wp2_with fail
    go_ret
    exact ⟨rfl, rfl⟩

theorem contains_any (s : ByteArray) (w : World) : Calls Tryd.prog 121 #[.string s, .func (.func 120) #[] #[]] w fun e w' => e = .returned (.bool !(s.data.toList.all okByte)) ∧ Below w.heap.size w w' := by
  have eg : ∀ args w, (callFunc 120 args).run Tryd.prog w = .ok (.enter 120 args) w := enters_of Tryd.func120 (by kernel_rfl) rfl
  have h := Tryd.strings_ContainsFunc 120 #[] eg otherR s w (fun W x hb => (other_any x W).mono fun e w' ⟨he, hw⟩ => ⟨he, 0, hw.symm⟩)
  have hi := idx_other s s.size 0 (by omega)
  rw [List.drop_zero] at hi
  rw [show Lib.idxFunc otherR true s = Lib.idxFuncFrom otherR true s s.size 0 from rfl, hi] at h
  exact h

set_option maxRecDepth 100000 in
set_option maxHeartbeats 1000000 in
theorem named_any (s : ByteArray) (w : World) (hs : s.size ≤ 9223372036854775807) : Calls Tryd.prog 115 #[.string s] w fun e w' => e = .returned (.bool (namedS s)) ∧ Below w.heap.size w w' := by
  have q := Lib.hid (contains_any s w)
  unfold namedS
  generalize s.data.toList.all okByte = z at *
  by_cases h1 : s.size < 1
  · rw [decide_eq_false (show ¬ (1 ≤ s.size ∧ s.size ≤ 16) by omega)]
    have t1 : decide ((s.size : Int) < 1) = true := decide_eq_true (by omega)
    clear q h1
    go_enter Tryd.func115, Tryd.ntmps115
    go_wp2_with fail
    go_ret
    exact ⟨rfl, Below.refl _ _⟩
  by_cases h2 : 16 < s.size
  · rw [decide_eq_false (show ¬ (1 ≤ s.size ∧ s.size ≤ 16) by omega)]
    have t1 : decide ((s.size : Int) < 1) = false := decide_eq_false (by omega)
    have t2 : decide (16 < (s.size : Int)) = true := decide_eq_true (by omega)
    clear q h1 h2
    go_enter Tryd.func115, Tryd.ntmps115
    go_wp2_with fail
    go_ret
    exact ⟨rfl, Below.refl _ _⟩
  rw [decide_eq_true (show (1 ≤ s.size ∧ s.size ≤ 16) by omega)]
  have t1 : decide ((s.size : Int) < 1) = false := decide_eq_false (by omega)
  have t2 : decide (16 < (s.size : Int)) = false := decide_eq_false (by omega)
  clear h1 h2
  go_enter Tryd.func115, Tryd.ntmps115
  go_wp2_with fail
  refine q.out.mono ?_
  rintro e w1 ⟨rfl, hb⟩
  have HB := Lib.hid hb
  clear hb
  cases z
  all_goals
    go_wp2_with fail
    go_ret
    exact ⟨rfl, HB.out⟩

theorem all_take_step {s : ByteArray} {k : Nat} (h : k < s.size) : (s.data.toList.take (k + 1)).all okByte = ((s.data.toList.take k).all okByte && okByte (s[k]'h)) := by
  rw [List.take_succ_eq_append_getElem (by simpa using h), List.all_append]
  simp
  rfl
theorem all_take_false {s : ByteArray} {k : Nat} (h : (s.data.toList.take k).all okByte = false) : s.data.toList.all okByte = false := by
  rw [← List.take_append_drop k s.data.toList, List.all_append, h]; rfl

set_option maxRecDepth 100000 in
set_option maxHeartbeats 1000000 in
theorem rNamed_any (s : ByteArray) (w : World) (hs : s.size ≤ 9223372036854775807) : Calls Tryd.prog 95 #[.string s] w fun e w' => e = .returned (.bool (namedS s)) ∧ w' = w := by
  have hn : Hid (namedS s = (decide (1 ≤ s.size ∧ s.size ≤ 16) && s.data.toList.all okByte)) := rfl
  generalize namedS s = N at *
  go_enter Tryd.func95, Tryd.ntmps95
  go_wp2_with fail
  go_loopw [3] (fun s3 wr => ∃ k : Nat, s3 = .int .i64 k ∧ Hid (k ≤ s.size) ∧ Hid ((s.data.toList.take k).all okByte = true) ∧ wr = w) (fun s3 _ => s.size - (intOf s3).toNat)
  case atStart => exact ⟨0, rfl, Nat.zero_le _, rfl, rfl⟩
  case round =>
    obtain ⟨k, rfl, hk, hA, rfl⟩ := hrel
    by_cases hlt : k < s.size
    · have hst := Lib.hid (all_take_step hlt)
      have hok : Hid (okByte (s[k]'hlt) = okN (s[k]'hlt).toNat) := rfl
      have hrest : Hid ((s.data.toList.take (k + 1)).all okByte = false → N = false) := fun h => by rw [hn.out, all_take_false h, Bool.and_false]
      obtain ⟨c, hc⟩ : ∃ c, (s[k]'hlt).toNat = c := ⟨_, rfl⟩
      obtain ⟨z1, h1⟩ : ∃ z, decide (48 ≤ c) = z := ⟨_, rfl⟩
      obtain ⟨z2, h2⟩ : ∃ z, decide (c ≤ 57) = z := ⟨_, rfl⟩
      obtain ⟨z3, h3⟩ : ∃ z, decide (97 ≤ c) = z := ⟨_, rfl⟩
      obtain ⟨z4, h4⟩ : ∃ z, decide (c ≤ 122) = z := ⟨_, rfl⟩
      have HK : Hid (okByte (s[k]'hlt) = ((z1 && z2) || (z3 && z4))) := by show _ = _; rw [hok.out, hc]; unfold okN; rw [h1, h2, h3, h4]
      have t1 : decide (48 ≤ ((s[k]'hlt).toNat : Int)) = z1 := by rw [← h1, hc]; exact decide_eq_decide.2 (by omega)
      have t2 : decide (((s[k]'hlt).toNat : Int) ≤ 57) = z2 := by rw [← h2, hc]; exact decide_eq_decide.2 (by omega)
      have t3 : decide (97 ≤ ((s[k]'hlt).toNat : Int)) = z3 := by rw [← h3, hc]; exact decide_eq_decide.2 (by omega)
      have t4 : decide (((s[k]'hlt).toNat : Int) ≤ 122) = z4 := by rw [← h4, hc]; exact decide_eq_decide.2 (by omega)
      clear h1 h2 h3 h4 hc hok hn
      by_cases hz : ((z1 && z2) || (z3 && z4)) = true
      · have hnx : Hid ((s.data.toList.take (k + 1)).all okByte = true) := by show _ = _; rw [hst.out, hA.out, HK.out, hz]; rfl
        clear hst HK hrest hA
        cases z1 <;> cases z2 <;> cases z3 <;> cases z4 <;> (try exact absurd hz (by decide)) <;> clear hz
        all_goals
          go_wp2_with fail
          go_roundw
          case rel => exact ⟨k + 1, by go_num, by show _ ≤ _; omega, hnx.out, trivial⟩
          case measure => simp [intOf]; omega
      · have hNf : Hid (N = false) := hrest.out (by rw [hst.out, HK.out, (by simpa using hz : ((z1 && z2) || (z3 && z4)) = false), Bool.and_false])
        clear hst HK hrest hA
        cases z1 <;> cases z2 <;> cases z3 <;> cases z4 <;> (try exact absurd rfl hz) <;> clear hz
        all_goals
          go_wp2_with fail
          go_ret
          exact ⟨by rw [hNf.out]; rfl, rfl⟩
    · have hkk : k = s.size := by have := hk.out; omega
      have hN : Hid (N = decide (1 ≤ s.size ∧ s.size ≤ 16)) := by
        have h := hA.out
        rw [hkk, List.take_of_length_le (by simp)] at h
        show _ = _
        rw [hn.out, h, Bool.and_true]
      clear hn hA
      by_cases h1 : 1 ≤ s.size
      · have t1 : decide ((1 : Int) ≤ (s.size : Int)) = true := decide_eq_true (by omega)
        by_cases h2 : s.size ≤ 16
        · have t2 : decide ((s.size : Int) ≤ 16) = true := decide_eq_true (by omega)
          have hN2 := Lib.hid (hN.out.trans (decide_eq_true ⟨h1, h2⟩))
          clear hN h1 h2
          go_wp2_with fail
          go_ret
          exact ⟨by rw [hN2.out]; rfl, rfl⟩
        · have t2 : decide ((s.size : Int) ≤ 16) = false := decide_eq_false (by omega)
          have hN2 := Lib.hid (hN.out.trans (decide_eq_false (fun h => h2 h.2)))
          clear hN h1 h2
          go_wp2_with fail
          go_ret
          exact ⟨by rw [hN2.out]; rfl, rfl⟩
      · have t1 : decide ((1 : Int) ≤ (s.size : Int)) = false := decide_eq_false (by omega)
        have hN2 := Lib.hid (hN.out.trans (decide_eq_false (fun h => h1 h.1)))
        clear hN h1
        go_wp2_with fail
        go_ret
        exact ⟨by rw [hN2.out]; rfl, rfl⟩
end Go.Proofs.YtaigngdlioplaaaDoor
