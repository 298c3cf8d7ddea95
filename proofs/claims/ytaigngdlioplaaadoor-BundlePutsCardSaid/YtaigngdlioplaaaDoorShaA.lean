/- sha: turned, mixed, word; the reference's turn, move. -/
import Derived.Test.YtaigngdlioplaaaDoorShaP
import Derived.Test.YtaigngdlioplaaaDoorRegT
import Derived.Test.YtaigngdlioplaaaDoorNumsB
import Derived.Outline
namespace Go.Proofs.YtaigngdlioplaaaDoor
open Go Go.RowKit

theorem rot_s (b : Nat) (h1 : 1 ≤ b) (h2 : b ≤ 31) : bits .and .u64 (IntKind.u64.wrap (-(b : Int))) 31 = ((32 - b : Nat) : Int) := by
  have e : IntKind.u64.wrap (-(b : Int)) = ((18446744073709551616 - b : Nat) : Int) := by rw [IntKind.wrap_u64]; omega
  have e2 : (31 : Int) = ((31 : Nat) : Int) := rfl
  rw [e, e2, u64_and_nat _ _ (by omega) (by omega)]
  congr 1
  rw [show (31 : Nat) = 2 ^ 5 - 1 from rfl, Nat.and_two_pow_sub_one_eq_mod]
  omega

set_option maxRecDepth 100000 in
theorem rot_any (x : Int) (b : Nat) (w : World) (hx : Hid (U32 x)) (h1 : 1 ≤ b) (h2 : b ≤ 31) :
    Calls Tryd.prog 129 #[.int .u32 x, .int .i64 (-(b : Int))] w fun e w' => e = .returned (.int .u32 (rr b x)) ∧ w = w' := by
  have hs := rot_s b h1 h2
  have hr := Lib.hid (rr_swap b x hx.out)
  go_enter Tryd.func129, Tryd.ntmps129
  go_wp2_with fail
  go_ret
  refine ⟨ret_int ?_, rfl⟩
  rw [show 32 - (32 - b) = b by omega]
  exact hr.out

set_option maxRecDepth 100000 in
theorem rturn_any (x : Int) (b : Nat) (w : World) (h1 : 1 ≤ b) (h2 : b ≤ 31) :
    Calls Tryd.prog 108 #[.int .u32 x, .int .i64 (b : Int)] w fun e w' => e = .returned (.int .u32 (rr b x)) ∧ w = w' := by
  go_enter Tryd.func108, Tryd.ntmps108
  go_wp2_with fail
  go_ret
  exact ⟨rfl, rfl⟩

set_option maxRecDepth 100000 in
theorem rmove_any (x : Int) (b : Nat) (w : World) (h2 : b ≤ 31) :
    Calls Tryd.prog 109 #[.int .u32 x, .int .i64 (b : Int)] w fun e w' => e = .returned (.int .u32 (x / 2 ^ b)) ∧ w = w' := by
  go_enter Tryd.func109, Tryd.ntmps109
  go_wp2_with fail
  go_ret
  exact ⟨rfl, rfl⟩

set_option maxRecDepth 100000 in
theorem word_any (b o n c : Nat) (x : Nat → Int) (w : World) (hn : 4 ≤ n) (hc : ∀ i, i < 4 → w.cell? ⟨b, o + i, none⟩ = some (.int .u8 (x i))) (hx : Hid (∀ i, i < 4 → 0 ≤ x i ∧ x i ≤ 255)) :
    Calls Tryd.prog 125 #[.slice (some ⟨b, o, none⟩) n c] w fun e w' => e = .returned (.int .u32 (wordAt x 0)) ∧ ∃ n, w' = w.drewN n := by
  have c0 := hc 0 (by omega)
  have c1 := hc 1 (by omega)
  have c2 := hc 2 (by omega)
  have c3 := hc 3 (by omega)
  simp only [Nat.add_zero] at c0
  have n0 : 0 < n := by omega
  have n1 : 1 < n := by omega
  have n2 : 2 < n := by omega
  have n3 : 3 < n := by omega
  clear hc
  go_enter Tryd.func125, Tryd.ntmps125
  go_wp2_with fail
  go_quiet (fail)
  go_wp2_with fail
  go_ret
  exact ⟨ret_int (word_or _ _ _ _ (hx.out 0 (by omega)) (hx.out 1 (by omega)) (hx.out 2 (by omega)) (hx.out 3 (by omega))), _, rfl⟩

set_option maxRecDepth 100000 in
theorem turned_any (x : Int) (b : Nat) (w : World) (hx : Hid (U32 x)) (h1 : 1 ≤ b) (h2 : b ≤ 31) :
    Calls Tryd.prog 127 #[.int .u32 x, .int .i64 (b : Int)] w fun e w' => e = .returned (.int .u32 (rr b x)) ∧ w = w' := by
  have q := Lib.hid (rot_any x b w hx h1 h2)
  go_enter Tryd.func127, Tryd.ntmps127
  go_wp2_with fail
  refine q.out.mono ?_
  rintro e w1 ⟨rfl, rfl⟩
  go_wp2_with fail
  go_ret
  exact ⟨rfl, rfl⟩
set_option maxRecDepth 100000 in
theorem mixed_any (x : Int) (a b : Nat) (c : Int) (w : World) (hx : Hid (U32 x)) (h1 : 1 ≤ a) (h2 : a ≤ 31) (h3 : 1 ≤ b) (h4 : b ≤ 31) :
    Calls Tryd.prog 126 #[.int .u32 x, .int .i64 (a : Int), .int .i64 (b : Int), .int .u32 c] w fun e w' => e = .returned (.int .u32 (bits .xor .u32 (bits .xor .u32 (rr a x) (rr b x)) c)) ∧ w = w' := by
  have q1 := Lib.hid (turned_any x a w hx h1 h2)
  have q2 := Lib.hid (turned_any x b w hx h3 h4)
  go_enter Tryd.func126, Tryd.ntmps126
  go_wp2_with fail
  refine q1.out.mono ?_
  rintro e w1 ⟨rfl, rfl⟩
  go_wp2_with fail
  refine q2.out.mono ?_
  rintro e w1 ⟨rfl, rfl⟩
  go_wp2_with fail
  go_ret
  exact ⟨rfl, rfl⟩
end Go.Proofs.YtaigngdlioplaaaDoor
