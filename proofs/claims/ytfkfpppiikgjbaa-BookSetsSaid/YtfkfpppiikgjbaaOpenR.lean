/- Records of whole numbers that come in by value. -/
import Derived.Test.YtfkfpppiikgjbaaOpenB
namespace Go.Proofs.Ytfkfpppiikgjbaa
open Go Go.ChangeShapes Go.WideShapes Go.Deep Go.ChangeAt Go.RowKit
set_option linter.unusedVariables false
theorem range2 {α : Type} (f : Nat → α) : (Array.range 2).map f = #[f 0, f 1] := by simp [Array.range, Array.ofFn_succ]
theorem range3 {α : Type} (f : Nat → α) : (Array.range 3).map f = #[f 0, f 1, f 2] := by simp [Array.range, Array.ofFn_succ]
theorem range4 {α : Type} (f : Nat → α) : (Array.range 4).map f = #[f 0, f 1, f 2, f 3] := by simp [Array.range, Array.ofFn_succ]
theorem range6 {α : Type} (f : Nat → α) : (Array.range 6).map f = #[f 0, f 1, f 2, f 3, f 4, f 5] := by simp [Array.range, Array.ofFn_succ]
set_option maxRecDepth 100000 in
theorem open_holder {H : Type} {enc : TypeId × Value → H} {W : World} {r : Reach} {b0 : Nat} {v : Value} {d : DataW H} {ps : List MemPlace} (hv : Value.okWide Try.prog W r b0 39 v) (h : DataW.Trod enc Try.prog W 0 (fun _ => true) true 39 v d ps) :
    ∃ x0 x1 x2 x3 : Int, v = .agg #[.int .i64 x0, .int .i64 x1, .int .i64 x2, .int .i64 x3] ∧ I64 x0 ∧ I64 x1 ∧ I64 x2 ∧ I64 x3 := by
  obtain ⟨x, rfl, hx⟩ := open_agg_i64 2 4 Try.underlying39 (by kernel_rfl) (allI64_spec (by kernel_rfl)) hv h
  exact ⟨x 0, x 1, x 2, x 3, by rw [range4], hx 0 (by decide), hx 1 (by decide), hx 2 (by decide), hx 3 (by decide)⟩
set_option maxRecDepth 100000 in
theorem open_rate {H : Type} {enc : TypeId × Value → H} {W : World} {r : Reach} {b0 : Nat} {v : Value} {d : DataW H} {ps : List MemPlace} (hv : Value.okWide Try.prog W r b0 45 v) (h : DataW.Trod enc Try.prog W 0 (fun _ => true) true 45 v d ps) :
    ∃ x0 x1 : Int, v = .agg #[.int .i64 x0, .int .i64 x1] ∧ I64 x0 ∧ I64 x1 := by
  obtain ⟨x, rfl, hx⟩ := open_agg_i64 2 2 Try.underlying45 (by kernel_rfl) (allI64_spec (by kernel_rfl)) hv h
  exact ⟨x 0, x 1, by rw [range2], hx 0 (by decide), hx 1 (by decide)⟩
set_option maxRecDepth 100000 in
theorem open_stake {H : Type} {enc : TypeId × Value → H} {W : World} {r : Reach} {b0 : Nat} {v : Value} {d : DataW H} {ps : List MemPlace} (hv : Value.okWide Try.prog W r b0 41 v) (h : DataW.Trod enc Try.prog W 0 (fun _ => true) true 41 v d ps) :
    ∃ x0 x1 x2 : Int, v = .agg #[.int .i64 x0, .int .i64 x1, .int .i64 x2] ∧ I64 x0 ∧ I64 x1 ∧ I64 x2 := by
  obtain ⟨x, rfl, hx⟩ := open_agg_i64 2 3 Try.underlying41 (by kernel_rfl) (allI64_spec (by kernel_rfl)) hv h
  exact ⟨x 0, x 1, x 2, by rw [range3], hx 0 (by decide), hx 1 (by decide), hx 2 (by decide)⟩
set_option maxRecDepth 100000 in
theorem open_open {H : Type} {enc : TypeId × Value → H} {W : World} {r : Reach} {b0 : Nat} {v : Value} {d : DataW H} {ps : List MemPlace} (hv : Value.okWide Try.prog W r b0 43 v) (h : DataW.Trod enc Try.prog W 0 (fun _ => true) true 43 v d ps) :
    ∃ x0 x1 x2 x3 x4 x5 : Int, v = .agg #[.int .i64 x0, .int .i64 x1, .int .i64 x2, .int .i64 x3, .int .i64 x4, .int .i64 x5] ∧ I64 x0 ∧ I64 x1 ∧ I64 x2 ∧ I64 x3 ∧ I64 x4 ∧ I64 x5 := by
  obtain ⟨x, rfl, hx⟩ := open_agg_i64 2 6 Try.underlying43 (by kernel_rfl) (allI64_spec (by kernel_rfl)) hv h
  exact ⟨x 0, x 1, x 2, x 3, x 4, x 5, by rw [range6], hx 0 (by decide), hx 1 (by decide), hx 2 (by decide), hx 3 (by decide), hx 4 (by decide), hx 5 (by decide)⟩
end Go.Proofs.Ytfkfpppiikgjbaa
