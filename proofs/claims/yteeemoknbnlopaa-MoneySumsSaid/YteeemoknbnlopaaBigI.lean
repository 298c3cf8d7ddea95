/- money: sums and differences of two numbers, any without its sign; is what is told the reference's. -/
import Derived.Test.YteeemoknbnlopaaBigH
import Derived.Test.YteeemoknbnlopaaMoneyG
namespace Go.Proofs.Yteeemoknbnlopaa
open Go Go.RowKit Bg Mon
set_option linter.unusedVariables false

theorem total_fits {x : Int} (h : -1569275433846670190958947355801916604025588861116008628224 ≤ x ∧ x ≤ 1569275433846670190958947355801916604025588861116008628224) : total (x % M3) = fitsP x := by
  have e : sg (x % M3) = x := by unfold sg M3; split <;> omega
  unfold total fitsP
  rw [e]

theorem same_any (x : Value) (X n : Int) (ok : Bool) (w : World) (hx : Hid (BigAt w x X)) (bX : X.natAbs < 10000 ^ 40) (h : fitsP X = (n, ok)) :
    Calls Try.prog 17 #[.int .i64 n, .bool ok, x] w fun e w' => e = .returned (.bool true) ∧ Below w.heap.size w w' := by
  obtain ⟨t, A, m, c, rfl⟩ := hx.out.form
  have h1 := BigBlk.mk w _ t (.slice A m c) rfl
  have hb1 := below_alloc (Below.refl w.heap.size w) (Nat.le_refl _) (.cells #[.bool t, .slice A m c] 30)
  have hx1 := Lib.hid (hx.out.call hb1)
  have q := Lib.hid (Fits_any (.agg #[.bool t, .slice A m c]) X (w.alloc (.cells #[.bool t, .slice A m c] 30)) hx1 bX)
  rw [h] at q
  clear h
  have t1 : (ok == ok) = true := by simp
  have t2 : (n == n) = true := by simp
  go_enter Try.func17, Try.ntmps17
  go_wp2_with fail
  with_reducible refine q.out.mono ?_
  rintro e w2 ⟨rfl, hb2⟩
  have HB := Lib.hid (hb1.trans (hb2.mono hb1.size))
  clear hb1 hb2 h1 hx hx1 q
  go_wp2_with fail
  go_ret
  exact ⟨rfl, HB.out⟩

theorem AddM_any (a b : Int) (ha : I64 a) (hb : I64 b) (w : World) :
    Calls Try.prog 20 #[.int .i64 a, .int .i64 b] w fun r w' => r = .returned (.tuple #[.int .i64 (fitsP (a + b)).1, .bool (fitsP (a + b)).2]) ∧ w = w' := by
  unfold I64 at ha hb
  obtain ⟨s, hs⟩ : ∃ s, wrap64 (a + b) = s := ⟨_, rfl⟩
  have hs2 : s = if a + b < -9223372036854775808 then a + b + 18446744073709551616 else if a + b ≤ 9223372036854775807 then a + b else a + b - 18446744073709551616 := by
    rw [← hs]; unfold wrap64; split
    · omega
    · split <;> omega
  by_cases hf : -9223372036854775808 ≤ a + b ∧ a + b ≤ 9223372036854775807
  · have HF := Lib.hid (fits_in hf)
    have e : s = a + b := by rw [hs2, if_neg (by omega), if_pos (by omega)]
    have hd : decide (a < s) = decide (0 < b) := by rw [e]; by_cases h : 0 < b
                                                    · rw [decide_eq_true h, decide_eq_true (by omega)]
                                                    · rw [decide_eq_false h, decide_eq_false (by omega)]
    have hE := Lib.hid e
    clear hs2 e hf
    cases hd2 : decide (0 < b)
    · rw [hd2] at hd
      go_enter Try.func20, Try.ntmps20
      go_wp2
      go_ret2
      exact ⟨by rw [HF.out]; first | rfl | exact congrArg (fun z => Ending.returned (.tuple #[.int .i64 z, .bool true])) (hs.trans hE.out) | exact congrArg (fun z => Ending.returned (.tuple #[.int .i64 z, .bool true])) hE.out, rfl⟩
    · rw [hd2] at hd
      go_enter Try.func20, Try.ntmps20
      go_wp2
      go_ret2
      exact ⟨by rw [HF.out]; first | rfl | exact congrArg (fun z => Ending.returned (.tuple #[.int .i64 z, .bool true])) (hs.trans hE.out) | exact congrArg (fun z => Ending.returned (.tuple #[.int .i64 z, .bool true])) hE.out, rfl⟩
  · have HF := Lib.hid (fits_out hf)
    have hb0 : (b != 0) = true := by simp; omega
    by_cases hp : 0 < b
    · have hd2 : decide (0 < b) = true := decide_eq_true hp
      have hd : decide (a < s) = false := decide_eq_false (by omega)
      clear hs2 hf hp
      go_enter Try.func20, Try.ntmps20
      go_wp2
      go_ret2
      exact ⟨by rw [HF.out]; rfl, rfl⟩
    · have hd2 : decide (0 < b) = false := decide_eq_false hp
      have hd : decide (a < s) = true := decide_eq_true (by omega)
      clear hs2 hf hp
      go_enter Try.func20, Try.ntmps20
      go_wp2
      go_ret2
      exact ⟨by rw [HF.out]; rfl, rfl⟩

theorem SubM_any (a b : Int) (ha : I64 a) (hb : I64 b) (w : World) :
    Calls Try.prog 21 #[.int .i64 a, .int .i64 b] w fun r w' => r = .returned (.tuple #[.int .i64 (fitsP (a - b)).1, .bool (fitsP (a - b)).2]) ∧ Below w.heap.size w w' := by
  have q1 := Lib.hid (Add_any w.heap.size 0 a ok_zero ha (w.alloc (.cells #[.int .u64 0, .int .u64 0, .int .u64 0] 27)) (sum_new w))
  rw [Int.zero_add] at q1
  have q2 := Lib.hid (fun w' h => AddMul_any w.heap.size (a % M3) b (-1) (ok_mod _) hb (by unfold I64; omega) w' h)
  have hF : total ((a % M3 + b * -1) % M3) = fitsP (a - b) := by rw [turn_add, show a + b * -1 = a - b by omega]; exact total_fits (by unfold I64 at ha hb; omega)
  have q3 := Lib.hid (fun w' h => Total_any w.heap.size ((a % M3 + b * -1) % M3) (ok_mod _) w' h)
  rw [hF] at q3
  go_enter Try.func21, Try.ntmps21
  go_wp2_with fail
  with_reducible refine q1.out.mono ?_
  rintro e w1 ⟨rfl, h1, h2⟩
  have H1 := Lib.hid h1
  have H2 := Lib.hid (below_of_grown (below_alloc (Below.refl _ _) (Nat.le_refl _) _) h2 (Nat.le_refl _) (by rw [World.size_alloc]; omega))
  clear h1 h2 hF
  go_wp2_with fail
  with_reducible refine (q2.out _ H1).mono ?_
  rintro e w2 ⟨rfl, h1, h2⟩
  have H3 := Lib.hid h1
  have H4 := Lib.hid (below_of_grown H2.out h2 (Nat.le_refl _) H2.out.size)
  clear h1 h2
  go_wp2_with (go_at_call 16; with_reducible refine (q3.out _ H3).mono ?_; rintro e w9 ⟨rfl, rfl⟩)
  go_ret2
  exact ⟨rfl, H4.out⟩

theorem AbsM_any (a : Int) (ha : I64 a) (w : World) :
    Calls Try.prog 23 #[.int .i64 a] w fun r w' => r = .returned (.tuple #[.int .i64 (fitsP a.natAbs).1, .bool (fitsP a.natAbs).2]) ∧ Below w.heap.size w w' := by
  by_cases h : 0 ≤ a
  · have HF := Lib.hid (fits_in (X := (a.natAbs : Int)) (by unfold I64 at ha; omega))
    have HN := Lib.hid (show (a.natAbs : Int) = a by omega)
    go_enter Try.func23, Try.ntmps23
    go_wp2
    go_ret2
    exact ⟨by rw [HF.out, HN.out]; rfl, Below.refl _ _⟩
  · have q := Lib.hid (SubM_any 0 a (by unfold I64; omega) ha w)
    rw [show (0 : Int) - a = (a.natAbs : Int) by omega] at q
    go_enter Try.func23, Try.ntmps23
    go_wp2_with fail
    with_reducible refine q.out.mono ?_
    rintro e w1 ⟨rfl, hb⟩
    have HB := Lib.hid hb
    clear hb
    go_wp2_with fail
    go_ret2
    exact ⟨rfl, HB.out⟩
end Go.Proofs.Yteeemoknbnlopaa
