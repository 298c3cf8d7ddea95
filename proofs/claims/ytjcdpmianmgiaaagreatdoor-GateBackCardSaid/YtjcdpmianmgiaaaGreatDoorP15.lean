/- Part 16 of what the claim rests on. -/
import Derived.Test.YtjcdpmianmgiaaaGreatDoorP00
import Derived.Test.YtjcdpmianmgiaaaGreatDoorP01
import Derived.Test.YtjcdpmianmgiaaaGreatDoorP06
import Derived.Test.YtjcdpmianmgiaaaGreatDoorP08
import Derived.Test.YtjcdpmianmgiaaaGreatDoorP13
import Derived.Test.YtjcdpmianmgiaaaGreatDoorP14
import Derived.BigQuiet
import Derived.Deep.QuietTactic
namespace Go.Proofs.YtjcdpmianmgiaaaGreatDoor
open Go Go.RowKit
set_option linter.unusedVariables false
def tabL : List Value := [.string ⟨#[]⟩, .int .i64 0, .int .i64 0, .string ⟨#[107, 105, 110, 100, 32, 97, 116, 32, 108, 101, 97, 115, 116]⟩, .int .i64 2, .int .i64 1, .string ⟨#[107, 105, 110, 100, 32, 97, 116, 32, 109, 111, 115, 116]⟩, .int .i64 1, .int .i64 1, .string ⟨#[115, 105, 100, 101, 32, 97, 116, 32, 108, 101, 97, 115, 116]⟩, .int .i64 2, .int .i64 2, .string ⟨#[115, 105, 100, 101, 32, 97, 116, 32, 109, 111, 115, 116]⟩, .int .i64 1, .int .i64 2, .string ⟨#[113, 117, 97, 110, 116, 105, 116, 121]⟩, .int .i64 2, .int .i64 2, .string ⟨#[112, 114, 105, 99, 101]⟩, .int .i64 2, .int .i64 2, .string ⟨#[99, 97, 115, 104]⟩, .int .i64 2, .int .i64 2, .string ⟨#[108, 105, 109, 105, 116, 32, 111, 102, 32, 112, 111, 115, 105, 116, 105, 111, 110]⟩, .int .i64 2, .int .i64 2, .string ⟨#[108, 105, 109, 105, 116, 32, 111, 102, 32, 111, 114, 100, 101, 114]⟩, .int .i64 2, .int .i64 2, .string ⟨#[97, 99, 99, 111, 117, 110, 116, 32, 107, 110, 111, 119, 110]⟩, .int .i64 3, .int .i64 3, .string ⟨#[97, 99, 99, 111, 117, 110, 116, 32, 110, 101, 119]⟩, .int .i64 3, .int .i64 4, .string ⟨#[111, 114, 100, 101, 114, 32, 110, 101, 119]⟩, .int .i64 3, .int .i64 5, .string ⟨#[111, 114, 100, 101, 114, 32, 107, 110, 111, 119, 110]⟩, .int .i64 3, .int .i64 6, .string ⟨#[115, 121, 109, 98, 111, 108, 32, 112, 114, 105, 99, 101, 100]⟩, .int .i64 3, .int .i64 7, .string ⟨#[114, 111, 111, 109, 32, 111, 102, 32, 97, 99, 99, 111, 117, 110, 116, 115]⟩, .int .i64 1, .int .i64 8, .string ⟨#[114, 111, 111, 109, 32, 111, 102, 32, 111, 114, 100, 101, 114, 115]⟩, .int .i64 1, .int .i64 8, .string ⟨#[114, 111, 111, 109, 32, 111, 102, 32, 112, 114, 105, 99, 101, 115]⟩, .int .i64 1, .int .i64 8, .string ⟨#[119, 111, 114, 116, 104]⟩, .int .i64 1, .int .i64 9, .string ⟨#[114, 101, 97, 99, 104]⟩, .int .i64 1, .int .i64 10, .string ⟨#[109, 97, 114, 103, 105, 110]⟩, .int .i64 1, .int .i64 11, .string ⟨#[102, 105, 108, 108, 101, 100]⟩, .int .i64 1, .int .i64 2, .string ⟨#[99, 97, 115, 104, 32, 98, 101, 104, 105, 110, 100]⟩, .int .i64 3, .int .i64 12, .string ⟨#[112, 111, 115, 105, 116, 105, 111, 110, 32, 98, 101, 104, 105, 110, 100]⟩, .int .i64 3, .int .i64 12]
theorem tab_at : ∀ n, n < 24 → tabL[n * 3]? = some (.string ⟨(Rule.name n).toArray⟩) ∧ tabL[n * 3 + 1]? = some (.int .i64 (Rule.rel n)) ∧ tabL[n * 3 + 2]? = some (.int .i64 (Rule.code n))
  | 0, _ => ⟨rfl, rfl, rfl⟩
  | 1, _ => ⟨rfl, rfl, rfl⟩
  | 2, _ => ⟨rfl, rfl, rfl⟩
  | 3, _ => ⟨rfl, rfl, rfl⟩
  | 4, _ => ⟨rfl, rfl, rfl⟩
  | 5, _ => ⟨rfl, rfl, rfl⟩
  | 6, _ => ⟨rfl, rfl, rfl⟩
  | 7, _ => ⟨rfl, rfl, rfl⟩
  | 8, _ => ⟨rfl, rfl, rfl⟩
  | 9, _ => ⟨rfl, rfl, rfl⟩
  | 10, _ => ⟨rfl, rfl, rfl⟩
  | 11, _ => ⟨rfl, rfl, rfl⟩
  | 12, _ => ⟨rfl, rfl, rfl⟩
  | 13, _ => ⟨rfl, rfl, rfl⟩
  | 14, _ => ⟨rfl, rfl, rfl⟩
  | 15, _ => ⟨rfl, rfl, rfl⟩
  | 16, _ => ⟨rfl, rfl, rfl⟩
  | 17, _ => ⟨rfl, rfl, rfl⟩
  | 18, _ => ⟨rfl, rfl, rfl⟩
  | 19, _ => ⟨rfl, rfl, rfl⟩
  | 20, _ => ⟨rfl, rfl, rfl⟩
  | 21, _ => ⟨rfl, rfl, rfl⟩
  | 22, _ => ⟨rfl, rfl, rfl⟩
  | 23, _ => ⟨rfl, rfl, rfl⟩
  | n + 24, h => absurd h (by omega)
set_option maxRecDepth 100000 in
set_option maxHeartbeats 4000000 in
theorem Table_in (n : Nat) (h0 : 0 < n) (h1 : n < 24) (w : World) : Calls Tryz.prog 63 #[.int .i64 n] w fun e w' => e = .returned (.agg #[.string ⟨(Rule.name n).toArray⟩, .int .i64 (Rule.rel n), .int .i64 (Rule.code n)]) ∧ Below w.heap.size w w' := by
  have t0 : decide ((n : Int) < 1) = false := decide_eq_false (by omega)
  have t1 : decide (23 < (n : Int)) = false := decide_eq_false (by omega)
  have hf := (tab_at n h1)
  generalize Rule.name n = nm at *
  generalize Rule.rel n = rl at *
  generalize Rule.code n = cd at *
  obtain ⟨f0, f1, f2⟩ := hf
  have hl0 : ([.string ⟨#[]⟩, .int .i64 0, .int .i64 0, .string ⟨#[107, 105, 110, 100, 32, 97, 116, 32, 108, 101, 97, 115, 116]⟩, .int .i64 2, .int .i64 1, .string ⟨#[107, 105, 110, 100, 32, 97, 116, 32, 109, 111, 115, 116]⟩, .int .i64 1, .int .i64 1, .string ⟨#[115, 105, 100, 101, 32, 97, 116, 32, 108, 101, 97, 115, 116]⟩, .int .i64 2, .int .i64 2, .string ⟨#[115, 105, 100, 101, 32, 97, 116, 32, 109, 111, 115, 116]⟩, .int .i64 1, .int .i64 2, .string ⟨#[113, 117, 97, 110, 116, 105, 116, 121]⟩, .int .i64 2, .int .i64 2, .string ⟨#[112, 114, 105, 99, 101]⟩, .int .i64 2, .int .i64 2, .string ⟨#[99, 97, 115, 104]⟩, .int .i64 2, .int .i64 2, .string ⟨#[108, 105, 109, 105, 116, 32, 111, 102, 32, 112, 111, 115, 105, 116, 105, 111, 110]⟩, .int .i64 2, .int .i64 2, .string ⟨#[108, 105, 109, 105, 116, 32, 111, 102, 32, 111, 114, 100, 101, 114]⟩, .int .i64 2, .int .i64 2, .string ⟨#[97, 99, 99, 111, 117, 110, 116, 32, 107, 110, 111, 119, 110]⟩, .int .i64 3, .int .i64 3, .string ⟨#[97, 99, 99, 111, 117, 110, 116, 32, 110, 101, 119]⟩, .int .i64 3, .int .i64 4, .string ⟨#[111, 114, 100, 101, 114, 32, 110, 101, 119]⟩, .int .i64 3, .int .i64 5, .string ⟨#[111, 114, 100, 101, 114, 32, 107, 110, 111, 119, 110]⟩, .int .i64 3, .int .i64 6, .string ⟨#[115, 121, 109, 98, 111, 108, 32, 112, 114, 105, 99, 101, 100]⟩, .int .i64 3, .int .i64 7, .string ⟨#[114, 111, 111, 109, 32, 111, 102, 32, 97, 99, 99, 111, 117, 110, 116, 115]⟩, .int .i64 1, .int .i64 8, .string ⟨#[114, 111, 111, 109, 32, 111, 102, 32, 111, 114, 100, 101, 114, 115]⟩, .int .i64 1, .int .i64 8, .string ⟨#[114, 111, 111, 109, 32, 111, 102, 32, 112, 114, 105, 99, 101, 115]⟩, .int .i64 1, .int .i64 8, .string ⟨#[119, 111, 114, 116, 104]⟩, .int .i64 1, .int .i64 9, .string ⟨#[114, 101, 97, 99, 104]⟩, .int .i64 1, .int .i64 10, .string ⟨#[109, 97, 114, 103, 105, 110]⟩, .int .i64 1, .int .i64 11, .string ⟨#[102, 105, 108, 108, 101, 100]⟩, .int .i64 1, .int .i64 2, .string ⟨#[99, 97, 115, 104, 32, 98, 101, 104, 105, 110, 100]⟩, .int .i64 3, .int .i64 12, .string ⟨#[112, 111, 115, 105, 116, 105, 111, 110, 32, 98, 101, 104, 105, 110, 100]⟩, .int .i64 3, .int .i64 12] : List Value)[n * 3]? = some (.string ⟨nm.toArray⟩) := f0
  have hl1 : ([.string ⟨#[]⟩, .int .i64 0, .int .i64 0, .string ⟨#[107, 105, 110, 100, 32, 97, 116, 32, 108, 101, 97, 115, 116]⟩, .int .i64 2, .int .i64 1, .string ⟨#[107, 105, 110, 100, 32, 97, 116, 32, 109, 111, 115, 116]⟩, .int .i64 1, .int .i64 1, .string ⟨#[115, 105, 100, 101, 32, 97, 116, 32, 108, 101, 97, 115, 116]⟩, .int .i64 2, .int .i64 2, .string ⟨#[115, 105, 100, 101, 32, 97, 116, 32, 109, 111, 115, 116]⟩, .int .i64 1, .int .i64 2, .string ⟨#[113, 117, 97, 110, 116, 105, 116, 121]⟩, .int .i64 2, .int .i64 2, .string ⟨#[112, 114, 105, 99, 101]⟩, .int .i64 2, .int .i64 2, .string ⟨#[99, 97, 115, 104]⟩, .int .i64 2, .int .i64 2, .string ⟨#[108, 105, 109, 105, 116, 32, 111, 102, 32, 112, 111, 115, 105, 116, 105, 111, 110]⟩, .int .i64 2, .int .i64 2, .string ⟨#[108, 105, 109, 105, 116, 32, 111, 102, 32, 111, 114, 100, 101, 114]⟩, .int .i64 2, .int .i64 2, .string ⟨#[97, 99, 99, 111, 117, 110, 116, 32, 107, 110, 111, 119, 110]⟩, .int .i64 3, .int .i64 3, .string ⟨#[97, 99, 99, 111, 117, 110, 116, 32, 110, 101, 119]⟩, .int .i64 3, .int .i64 4, .string ⟨#[111, 114, 100, 101, 114, 32, 110, 101, 119]⟩, .int .i64 3, .int .i64 5, .string ⟨#[111, 114, 100, 101, 114, 32, 107, 110, 111, 119, 110]⟩, .int .i64 3, .int .i64 6, .string ⟨#[115, 121, 109, 98, 111, 108, 32, 112, 114, 105, 99, 101, 100]⟩, .int .i64 3, .int .i64 7, .string ⟨#[114, 111, 111, 109, 32, 111, 102, 32, 97, 99, 99, 111, 117, 110, 116, 115]⟩, .int .i64 1, .int .i64 8, .string ⟨#[114, 111, 111, 109, 32, 111, 102, 32, 111, 114, 100, 101, 114, 115]⟩, .int .i64 1, .int .i64 8, .string ⟨#[114, 111, 111, 109, 32, 111, 102, 32, 112, 114, 105, 99, 101, 115]⟩, .int .i64 1, .int .i64 8, .string ⟨#[119, 111, 114, 116, 104]⟩, .int .i64 1, .int .i64 9, .string ⟨#[114, 101, 97, 99, 104]⟩, .int .i64 1, .int .i64 10, .string ⟨#[109, 97, 114, 103, 105, 110]⟩, .int .i64 1, .int .i64 11, .string ⟨#[102, 105, 108, 108, 101, 100]⟩, .int .i64 1, .int .i64 2, .string ⟨#[99, 97, 115, 104, 32, 98, 101, 104, 105, 110, 100]⟩, .int .i64 3, .int .i64 12, .string ⟨#[112, 111, 115, 105, 116, 105, 111, 110, 32, 98, 101, 104, 105, 110, 100]⟩, .int .i64 3, .int .i64 12] : List Value)[n * 3 + 1]? = some (.int .i64 rl) := f1
  have hl2 : ([.string ⟨#[]⟩, .int .i64 0, .int .i64 0, .string ⟨#[107, 105, 110, 100, 32, 97, 116, 32, 108, 101, 97, 115, 116]⟩, .int .i64 2, .int .i64 1, .string ⟨#[107, 105, 110, 100, 32, 97, 116, 32, 109, 111, 115, 116]⟩, .int .i64 1, .int .i64 1, .string ⟨#[115, 105, 100, 101, 32, 97, 116, 32, 108, 101, 97, 115, 116]⟩, .int .i64 2, .int .i64 2, .string ⟨#[115, 105, 100, 101, 32, 97, 116, 32, 109, 111, 115, 116]⟩, .int .i64 1, .int .i64 2, .string ⟨#[113, 117, 97, 110, 116, 105, 116, 121]⟩, .int .i64 2, .int .i64 2, .string ⟨#[112, 114, 105, 99, 101]⟩, .int .i64 2, .int .i64 2, .string ⟨#[99, 97, 115, 104]⟩, .int .i64 2, .int .i64 2, .string ⟨#[108, 105, 109, 105, 116, 32, 111, 102, 32, 112, 111, 115, 105, 116, 105, 111, 110]⟩, .int .i64 2, .int .i64 2, .string ⟨#[108, 105, 109, 105, 116, 32, 111, 102, 32, 111, 114, 100, 101, 114]⟩, .int .i64 2, .int .i64 2, .string ⟨#[97, 99, 99, 111, 117, 110, 116, 32, 107, 110, 111, 119, 110]⟩, .int .i64 3, .int .i64 3, .string ⟨#[97, 99, 99, 111, 117, 110, 116, 32, 110, 101, 119]⟩, .int .i64 3, .int .i64 4, .string ⟨#[111, 114, 100, 101, 114, 32, 110, 101, 119]⟩, .int .i64 3, .int .i64 5, .string ⟨#[111, 114, 100, 101, 114, 32, 107, 110, 111, 119, 110]⟩, .int .i64 3, .int .i64 6, .string ⟨#[115, 121, 109, 98, 111, 108, 32, 112, 114, 105, 99, 101, 100]⟩, .int .i64 3, .int .i64 7, .string ⟨#[114, 111, 111, 109, 32, 111, 102, 32, 97, 99, 99, 111, 117, 110, 116, 115]⟩, .int .i64 1, .int .i64 8, .string ⟨#[114, 111, 111, 109, 32, 111, 102, 32, 111, 114, 100, 101, 114, 115]⟩, .int .i64 1, .int .i64 8, .string ⟨#[114, 111, 111, 109, 32, 111, 102, 32, 112, 114, 105, 99, 101, 115]⟩, .int .i64 1, .int .i64 8, .string ⟨#[119, 111, 114, 116, 104]⟩, .int .i64 1, .int .i64 9, .string ⟨#[114, 101, 97, 99, 104]⟩, .int .i64 1, .int .i64 10, .string ⟨#[109, 97, 114, 103, 105, 110]⟩, .int .i64 1, .int .i64 11, .string ⟨#[102, 105, 108, 108, 101, 100]⟩, .int .i64 1, .int .i64 2, .string ⟨#[99, 97, 115, 104, 32, 98, 101, 104, 105, 110, 100]⟩, .int .i64 3, .int .i64 12, .string ⟨#[112, 111, 115, 105, 116, 105, 111, 110, 32, 98, 101, 104, 105, 110, 100]⟩, .int .i64 3, .int .i64 12] : List Value)[n * 3 + 2]? = some (.int .i64 cd) := f2
  clear f0 f1 f2 h0
  go_enter Tryz.func63, Tryz.ntmps63
  go_wp2_with fail
  clear hl0 hl1 hl2
  refine bodyPost_ret (v := .agg #[.string ⟨nm.toArray⟩, .int .i64 rl, .int .i64 cd]) ?_ rfl ⟨rfl, ((Below.refl _ w).alloc (Nat.le_refl _) _).alloc (by rw [World.size_alloc]; omega) _⟩
  rw [results_cell_one rfl]
  go_simp
set_option maxRecDepth 100000 in
set_option maxHeartbeats 4000000 in
theorem Table_out (n : Int) (h : n < 1 ∨ 23 < n) (w : World) : Calls Tryz.prog 63 #[.int .i64 n] w fun e w' => e = .returned (.agg #[.string ⟨#[]⟩, .int .i64 0, .int .i64 0]) ∧ Below w.heap.size w w' := by
  by_cases h0 : n < 1
  · have t0 : decide (n < 1) = true := decide_eq_true h0
    clear h h0
    go_enter Tryz.func63, Tryz.ntmps63
    go_wp2_with fail
    refine bodyPost_ret (v := .agg #[.string ⟨#[]⟩, .int .i64 0, .int .i64 0]) ?_ rfl ⟨rfl, ((Below.refl _ w).alloc (Nat.le_refl _) _).alloc (by rw [World.size_alloc]; omega) _⟩
    rw [results_cell_one rfl]
    go_simp
  · have t0 : decide (n < 1) = false := decide_eq_false h0
    have t1 : decide (23 < n) = true := decide_eq_true (by omega)
    clear h h0
    go_enter Tryz.func63, Tryz.ntmps63
    go_wp2_with fail
    refine bodyPost_ret (v := .agg #[.string ⟨#[]⟩, .int .i64 0, .int .i64 0]) ?_ rfl ⟨rfl, ((Below.refl _ w).alloc (Nat.le_refl _) _).alloc (by rw [World.size_alloc]; omega) _⟩
    rw [results_cell_one rfl]
    go_simp
theorem Table_any (n : Int) (w : World) : Calls Tryz.prog 63 #[.int .i64 n] w fun e w' => e = .returned (.agg #[.string ⟨(Rule.name (numR n)).toArray⟩, .int .i64 (relS n), .int .i64 (codeS n)]) ∧ Below w.heap.size w w' := by
  by_cases h : 0 < n ∧ n < 24
  · obtain ⟨m, rfl⟩ : ∃ m : Nat, n = m := ⟨n.toNat, by omega⟩
    have hn : numR (m : Int) = m := by unfold numR; rw [if_pos h]; rfl
    unfold relS codeS
    rw [hn]
    exact Table_in m (by omega) (by omega) w
  · have hn : numR n = 0 := by unfold numR; rw [if_neg h]
    unfold relS codeS
    rw [hn]
    exact Table_out n (by omega) w
end Go.Proofs.YtjcdpmianmgiaaaGreatDoor
namespace Go.Proofs.YtjcdpmianmgiaaaGreatDoor
open Go Go.RowKit
set_option linter.unusedVariables false
theorem row_f1 (s : ByteArray) (a b : Int) (w : World) : (Instr.field 108 (.agg #[.string s, .int .i64 a, .int .i64 b]) 1).run Tryz.prog w = .ok (.int .i64 a) w := by kernel_rfl
set_option maxRecDepth 100000 in
set_option maxHeartbeats 1000000 in
theorem rHolds_rel0 (r a b : Int) (h : relS r = 0) (w : World) : Calls Tryz.prog 23 #[.agg #[.int .i64 r, .int .i64 a, .int .i64 b, .bool false]] w fun e w' => e = .returned (.bool (false)) ∧ Below w.heap.size w w' := by
  have hb := (Below.refl w.heap.size w).alloc (Nat.le_refl _) (.cells #[.int .i64 r, .int .i64 a, .int .i64 b, .bool false] 50)
  have HB := zH hb
  have hk : Hid ((w.alloc (.cells #[.int .i64 r, .int .i64 a, .int .i64 b, .bool false] 50)).heap[w.heap.size]? = some (.cells #[.int .i64 r, .int .i64 a, .int .i64 b, .bool false] 50)) := heap_new _ _
  obtain ⟨nm, hnm⟩ : ∃ nm, Rule.name (numR r) = nm := ⟨_, rfl⟩
  obtain ⟨cd, hcd⟩ : ∃ cd, codeS r = cd := ⟨_, rfl⟩
  have q : Hid (∀ w, Calls Tryz.prog 63 #[.int .i64 r] w fun e w' => e = .returned (.agg #[.string ⟨nm.toArray⟩, .int .i64 0, .int .i64 cd]) ∧ Below w.heap.size w w') := fun w => by
    have := Table_any r w
    rw [h, hnm, hcd] at this
    exact this
  have hf := row_f1 ⟨nm.toArray⟩ 0 cd
  clear h hnm hcd hb
  go_enter Tryz.func23, Tryz.ntmps23
  go_wp2_with fail
  with_reducible refine (q.out _).mono ?_
  rintro e w' ⟨rfl, hb⟩
  have HB2 := zB HB hb
  have c1 := cells_of_blk (blk_call hk.out hb) 1 _ rfl
  have c2 := cells_of_blk (blk_call hk.out hb) 2 _ rfl
  clear hb
  go_wp2_with fail
  go_ret
  exact ⟨rfl, HB2.out⟩
set_option maxRecDepth 100000 in
set_option maxHeartbeats 1000000 in
theorem rHolds_rel1 (r a b : Int) (h : relS r = 1) (w : World) : Calls Tryz.prog 23 #[.agg #[.int .i64 r, .int .i64 a, .int .i64 b, .bool false]] w fun e w' => e = .returned (.bool (decide (a ≤ b))) ∧ Below w.heap.size w w' := by
  have hb := (Below.refl w.heap.size w).alloc (Nat.le_refl _) (.cells #[.int .i64 r, .int .i64 a, .int .i64 b, .bool false] 50)
  have HB := zH hb
  have hk : Hid ((w.alloc (.cells #[.int .i64 r, .int .i64 a, .int .i64 b, .bool false] 50)).heap[w.heap.size]? = some (.cells #[.int .i64 r, .int .i64 a, .int .i64 b, .bool false] 50)) := heap_new _ _
  obtain ⟨nm, hnm⟩ : ∃ nm, Rule.name (numR r) = nm := ⟨_, rfl⟩
  obtain ⟨cd, hcd⟩ : ∃ cd, codeS r = cd := ⟨_, rfl⟩
  have q : Hid (∀ w, Calls Tryz.prog 63 #[.int .i64 r] w fun e w' => e = .returned (.agg #[.string ⟨nm.toArray⟩, .int .i64 1, .int .i64 cd]) ∧ Below w.heap.size w w') := fun w => by
    have := Table_any r w
    rw [h, hnm, hcd] at this
    exact this
  have hf := row_f1 ⟨nm.toArray⟩ 1 cd
  clear h hnm hcd hb
  go_enter Tryz.func23, Tryz.ntmps23
  go_wp2_with fail
  with_reducible refine (q.out _).mono ?_
  rintro e w' ⟨rfl, hb⟩
  have HB2 := zB HB hb
  have c1 := cells_of_blk (blk_call hk.out hb) 1 _ rfl
  have c2 := cells_of_blk (blk_call hk.out hb) 2 _ rfl
  clear hb
  go_wp2_with fail
  go_ret
  exact ⟨rfl, HB2.out⟩
set_option maxRecDepth 100000 in
set_option maxHeartbeats 1000000 in
theorem rHolds_rel2 (r a b : Int) (h : relS r = 2) (w : World) : Calls Tryz.prog 23 #[.agg #[.int .i64 r, .int .i64 a, .int .i64 b, .bool false]] w fun e w' => e = .returned (.bool (decide (b ≤ a))) ∧ Below w.heap.size w w' := by
  have hb := (Below.refl w.heap.size w).alloc (Nat.le_refl _) (.cells #[.int .i64 r, .int .i64 a, .int .i64 b, .bool false] 50)
  have HB := zH hb
  have hk : Hid ((w.alloc (.cells #[.int .i64 r, .int .i64 a, .int .i64 b, .bool false] 50)).heap[w.heap.size]? = some (.cells #[.int .i64 r, .int .i64 a, .int .i64 b, .bool false] 50)) := heap_new _ _
  obtain ⟨nm, hnm⟩ : ∃ nm, Rule.name (numR r) = nm := ⟨_, rfl⟩
  obtain ⟨cd, hcd⟩ : ∃ cd, codeS r = cd := ⟨_, rfl⟩
  have q : Hid (∀ w, Calls Tryz.prog 63 #[.int .i64 r] w fun e w' => e = .returned (.agg #[.string ⟨nm.toArray⟩, .int .i64 2, .int .i64 cd]) ∧ Below w.heap.size w w') := fun w => by
    have := Table_any r w
    rw [h, hnm, hcd] at this
    exact this
  have hf := row_f1 ⟨nm.toArray⟩ 2 cd
  clear h hnm hcd hb
  go_enter Tryz.func23, Tryz.ntmps23
  go_wp2_with fail
  with_reducible refine (q.out _).mono ?_
  rintro e w' ⟨rfl, hb⟩
  have HB2 := zB HB hb
  have c1 := cells_of_blk (blk_call hk.out hb) 1 _ rfl
  have c2 := cells_of_blk (blk_call hk.out hb) 2 _ rfl
  clear hb
  go_wp2_with fail
  go_ret
  exact ⟨rfl, HB2.out⟩
set_option maxRecDepth 100000 in
set_option maxHeartbeats 1000000 in
theorem rHolds_rel3 (r a b : Int) (h : relS r = 3) (w : World) : Calls Tryz.prog 23 #[.agg #[.int .i64 r, .int .i64 a, .int .i64 b, .bool false]] w fun e w' => e = .returned (.bool (a == b)) ∧ Below w.heap.size w w' := by
  have hb := (Below.refl w.heap.size w).alloc (Nat.le_refl _) (.cells #[.int .i64 r, .int .i64 a, .int .i64 b, .bool false] 50)
  have HB := zH hb
  have hk : Hid ((w.alloc (.cells #[.int .i64 r, .int .i64 a, .int .i64 b, .bool false] 50)).heap[w.heap.size]? = some (.cells #[.int .i64 r, .int .i64 a, .int .i64 b, .bool false] 50)) := heap_new _ _
  obtain ⟨nm, hnm⟩ : ∃ nm, Rule.name (numR r) = nm := ⟨_, rfl⟩
  obtain ⟨cd, hcd⟩ : ∃ cd, codeS r = cd := ⟨_, rfl⟩
  have q : Hid (∀ w, Calls Tryz.prog 63 #[.int .i64 r] w fun e w' => e = .returned (.agg #[.string ⟨nm.toArray⟩, .int .i64 3, .int .i64 cd]) ∧ Below w.heap.size w w') := fun w => by
    have := Table_any r w
    rw [h, hnm, hcd] at this
    exact this
  have hf := row_f1 ⟨nm.toArray⟩ 3 cd
  clear h hnm hcd hb
  go_enter Tryz.func23, Tryz.ntmps23
  go_wp2_with fail
  with_reducible refine (q.out _).mono ?_
  rintro e w' ⟨rfl, hb⟩
  have HB2 := zB HB hb
  have c1 := cells_of_blk (blk_call hk.out hb) 1 _ rfl
  have c2 := cells_of_blk (blk_call hk.out hb) 2 _ rfl
  clear hb
  go_wp2_with fail
  go_ret
  exact ⟨rfl, HB2.out⟩
set_option maxRecDepth 100000 in
theorem rHolds_over (r a b : Int) (w : World) : Calls Tryz.prog 23 #[.agg #[.int .i64 r, .int .i64 a, .int .i64 b, .bool true]] w fun e w' => e = .returned (.bool false) ∧ Below w.heap.size w w' := by
  have hb := (Below.refl w.heap.size w).alloc (Nat.le_refl _) (.cells #[.int .i64 r, .int .i64 a, .int .i64 b, .bool true] 50)
  have HB := zH hb
  clear hb
  go_enter Tryz.func23, Tryz.ntmps23
  go_wp2_with fail
  go_ret
  exact ⟨rfl, HB.out⟩
theorem rHolds_any (s : Stp) (w : World) : Calls Tryz.prog 23 #[s.val] w fun e w' => e = .returned (.bool s.holds) ∧ Below w.heap.size w w' := by
  obtain ⟨r, a, b, o⟩ := s
  cases o with
  | true => exact rHolds_over r a b w
  | false =>
    have hl := relS_lt r
    have h4 : relS r = 0 ∨ relS r = 1 ∨ relS r = 2 ∨ relS r = 3 := by omega
    rcases h4 with h | h | h | h
    · have := rHolds_rel0 r a b h w
      rw [show (Stp.mk r a b false).holds = (false) by show (true && Rule.is (relS r) a b) = _; rw [h]; rfl]
      exact this
    · have := rHolds_rel1 r a b h w
      rw [show (Stp.mk r a b false).holds = (decide (a ≤ b)) by show (true && Rule.is (relS r) a b) = _; rw [h]; rfl]
      exact this
    · have := rHolds_rel2 r a b h w
      rw [show (Stp.mk r a b false).holds = (decide (b ≤ a)) by show (true && Rule.is (relS r) a b) = _; rw [h]; rfl]
      exact this
    · have := rHolds_rel3 r a b h w
      rw [show (Stp.mk r a b false).holds = (a == b) by show (true && Rule.is (relS r) a b) = _; rw [h]; rfl]
      exact this
end Go.Proofs.YtjcdpmianmgiaaaGreatDoor
namespace Go.Proofs.YtjcdpmianmgiaaaGreatDoor
open Go Go.RowKit
set_option linter.unusedVariables false
set_option linter.unusedSimpArgs false
theorem gbit_any (f : Bool) (w : World) : Calls Tryz.prog 87 #[.bool f] w fun e w' => e = .returned (.int .i64 (bitI f)) ∧ w' = w := by
  cases f with
  | true =>
    have h : bitI true = 1 := rfl
    rw [h]
    go_enter Tryz.func87, Tryz.ntmps87
    go_wp2_with fail
    go_ret
    exact ⟨rfl, rfl⟩
  | false =>
    have h : bitI false = 0 := rfl
    rw [h]
    go_enter Tryz.func87, Tryz.ntmps87
    go_wp2_with fail
    go_ret
    exact ⟨rfl, rfl⟩
end Go.Proofs.YtjcdpmianmgiaaaGreatDoor
namespace Go.Proofs.YtjcdpmianmgiaaaGreatDoor
open Go Go.RowKit
set_option linter.unusedVariables false
set_option linter.unusedSimpArgs false
theorem Off.freshC {w : World} {g : Nat} (hg : w.heap.size ≤ g) : ∀ {w' : World}, Off w w' → ∀ (o : Nat) (us : List Value), Off w (putC w' g o us)
  | w', h, o, [] => h
  | w', h, o, u :: us => by
    show Off w (putC (w'.setCell ⟨g, o, none⟩ u) g (o + 1) us)
    exact Off.freshC hg (h.fresh hg o u) (o + 1) us
theorem RowOwn.setO {w : World} {B : Nat} {e : TypeId} {v : Value} {k : Nat} {l : List (List Int)} (h : RowOwn w B e v k l) {g : Nat} {cs : Array Value} {t : TypeId} {fr : Nat × Nat} (hg : w.heap[g]? = some (.cells cs t fr)) (hne : e ≠ t) (i : Nat) (u : Value) : RowOwn (w.setCell ⟨g, i, none⟩ u) B e v k l := by
  obtain ⟨⟨hl, ho⟩, hk⟩ := h
  refine ⟨⟨hl, ?_⟩, hk⟩
  rcases ho with h | ⟨g', cap, cur, h1, h2, h3, h4⟩
  · exact .inl h
  · refine .inr ⟨g', cap, cur, h1, h2, set_oth h3 i u (fun e' => ?_), h4⟩
    subst e'
    rw [hg] at h3
    injection h3 with h3
    injection h3 with _ h3 _
    exact hne h3.symm
theorem BkOwn.setO {w : World} {B : Nat} {v : Value} {b : Bk} (h : BkOwn w B v b) {g : Nat} {cs : Array Value} {fr : Nat × Nat} (hg : w.heap[g]? = some (.cells cs 27 fr)) (i : Nat) (u : Value) : BkOwn (w.setCell ⟨g, i, none⟩ u) B v b := by
  obtain ⟨vh, vs, vo, vr, rfl, h1, h2, h3, h4⟩ := h
  exact ⟨vh, vs, vo, vr, rfl, h1.setO hg (by decide) i u, h2.setO hg (by decide) i u, h3.setO hg (by decide) i u, h4.setO hg (by decide) i u⟩
theorem BkOwn.put {g B : Nat} {v : Value} {b : Bk} {fr : Nat × Nat} : ∀ {w : World} {cs : Array Value}, BkOwn w B v b → w.heap[g]? = some (.cells cs 27 fr) → ∀ (o : Nat) (us : List Value), BkOwn (putC w g o us) B v b
  | w, cs, h, hg, o, [] => h
  | w, cs, h, hg, o, u :: us => by
    show BkOwn (putC (w.setCell ⟨g, o, none⟩ u) g (o + 1) us) B v b
    exact BkOwn.put (h.setO hg o u) (set_blk hg o u) (o + 1) us
theorem BkOwn.low {g B : Nat} {v : Value} {b : Bk} (hlt : g < B) : ∀ {w : World}, BkOwn w B v b → ∀ (o : Nat) (us : List Value), BkOwn (putC w g o us) B v b
  | w, h, o, [] => h
  | w, h, o, u :: us => by
    show BkOwn (putC (w.setCell ⟨g, o, none⟩ u) g (o + 1) us) B v b
    exact BkOwn.low hlt (BkOwn.setBelow (a := ⟨g, o, none⟩) h hlt u) (o + 1) us
def BkEi (w : World) (u v : Value) (b b' : Bk) : Prop := (v = u ∧ b' = b) ∨ BkOwn w 0 v b'
theorem BkEi.same (w : World) (u : Value) (b : Bk) : BkEi w u u b b := Or.inl ⟨rfl, rfl⟩
theorem BkEi.own {w : World} {u v : Value} {b b' : Bk} (h : BkOwn w 0 v b') : BkEi w u v b b' := Or.inr h
theorem LookIs.form {I : List Stp → World → Prop} {W : World} {f : Value} {s : Stp} (h : LookIs I W f s) : ∃ K caps, f = .func (.func K) #[] caps := by
  obtain ⟨K, caps, h1, _⟩ := h
  exact ⟨K, caps, h1⟩
theorem results_tmp3 {fn : Func} {t u v : Tmp} (h : fn.results = #[.tmp t, .tmp u, .tmp v]) (tmps : Array Value) (P : Program) (w : World) :
    (results fn tmps).run P w = .ok (.tuple #[tmps.getD t undef, tmps.getD u undef, tmps.getD v undef]) w := by
  simp [results, h, go_sem]
theorem gfit (n a b : Int) (hn : 0 ≤ n ∧ n ≤ 100) (ha : I64 a) (hb : I64 b) : Hid ((sS n a b).fit) := (show (sS n a b).fit from ⟨by show I64 n; unfold I64; omega, ha, hb⟩)
theorem i64_lit {n : Int} (h : -1000 ≤ n ∧ n ≤ 1000) : I64 n := by unfold I64; omega
theorem i64_bit (f : Bool) : I64 (bitI f) := by cases f <;> (unfold bitI I64; simp)
theorem i64_len {n : Nat} (h : n ≤ 1000000) : I64 (n : Int) := by unfold I64; omega
theorem Ev.I64s.all {e : Ev} (h : e.I64s) : I64 e.kind ∧ I64 e.acc ∧ I64 e.ord ∧ I64 e.sym ∧ I64 e.side ∧ I64 e.qty ∧ I64 e.px := h
theorem Ev.I64s.kind {e : Ev} (h : e.I64s) : I64 e.kind := h.all.1
theorem Ev.I64s.acc {e : Ev} (h : e.I64s) : I64 e.acc := h.all.2.1
theorem Ev.I64s.ord {e : Ev} (h : e.I64s) : I64 e.ord := h.all.2.2.1
theorem Ev.I64s.sym {e : Ev} (h : e.I64s) : I64 e.sym := h.all.2.2.2.1
theorem Ev.I64s.side {e : Ev} (h : e.I64s) : I64 e.side := h.all.2.2.2.2.1
theorem Ev.I64s.qty {e : Ev} (h : e.I64s) : I64 e.qty := h.all.2.2.2.2.2.1
theorem Ev.I64s.px {e : Ev} (h : e.I64s) : I64 e.px := h.all.2.2.2.2.2.2
end Go.Proofs.YtjcdpmianmgiaaaGreatDoor
namespace Go.Proofs.YtjcdpmianmgiaaaGreatDoor
open Go Go.RowKit Mon Bg
set_option linter.unusedVariables false
set_option linter.unusedSimpArgs false
theorem mul_fits {a b : Int} (ha : I64 a) (hb : I64 b) : total ((a * b) % M3) = mulP a b := by
  unfold mulP
  refine total_fits ?_
  have h1 : (a * b).natAbs ≤ 9223372036854775808 * 9223372036854775808 := by
    rw [Int.natAbs_mul]
    exact Nat.mul_le_mul (by unfold I64 at ha; omega) (by unfold I64 at hb; omega)
  omega
theorem fitsP_I64 (X : Int) : I64 (fitsP X).1 := by
  by_cases h : -9223372036854775808 ≤ X ∧ X ≤ 9223372036854775807
  · rw [fits_in h]; unfold I64; simp only []; omega
  · rw [fits_out h]; unfold I64; simp
theorem reachR_I64 (b : Bk) (acc sym side qty : Int) : I64 (reachR b acc sym side qty).1 := by
  unfold reachR
  split
  · unfold I64; simp
  · exact fitsP_I64 _
theorem needR_I64 (X rate : Int) : I64 (needR X rate).1 := by
  unfold needR
  split
  · unfold I64; simp
  · exact fitsP_I64 _
set_option maxRecDepth 100000 in
set_option maxHeartbeats 2000000 in
theorem order1_on (w0 : World) (g : Nat) (vh vs vo vr : Value) (b : Bk) (e : Ev) (rate : Int) (hE : Hid e.I64s) (h0 h1 h2 h3 : Int) (W : World) (p1 p2 : Nat) (hp1 : Hid (W.heap[p1]? = some (.cells #[.int .i64 e.kind, .int .i64 e.acc, .int .i64 e.ord, .int .i64 e.sym, .int .i64 e.side, .int .i64 e.qty, .int .i64 e.px] 29 (0, 0)))) (hp2 : Hid (W.heap[p2]? = some (.cells #[.int .i64 h0, .int .i64 h1, .int .i64 h2, .int .i64 h3] 82 (0, 0)))) :
    SideOn (Gt w0 g vh vs vo vr b e rate) W (.func (.func 92) #[] #[.pointer (some ⟨p1, 0, none⟩), .pointer (some ⟨p2, 0, none⟩)]) (mulP e.qty e.px).1 h3 (mulP e.qty e.px).2 := by
  refine ⟨_, _, rfl, fun args w => enters_of Tryz.func92 (by kernel_rfl) rfl _ w, fun w l hI hW => ?_⟩
  have K1 : Hid (w.heap[p1]? = some (.cells #[.int .i64 e.kind, .int .i64 e.acc, .int .i64 e.ord, .int .i64 e.sym, .int .i64 e.side, .int .i64 e.qty, .int .i64 e.px] 29 (0, 0))) := hW.blk _ _ _ _ hp1.out (by decide) (by decide)
  have K2 : Hid (w.heap[p2]? = some (.cells #[.int .i64 h0, .int .i64 h1, .int .i64 h2, .int .i64 h3] 82 (0, 0))) := hW.blk _ _ _ _ hp2.out (by decide) (by decide)
  clear hp1 hp2 hI hW
  have q := zH (fun wz => Mul_any e.qty e.px hE.out.qty hE.out.px wz)
  rw [mul_fits hE.out.qty hE.out.px] at q
  obtain ⟨M, hM⟩ : ∃ M, mulP e.qty e.px = M := ⟨_, rfl⟩
  rw [hM] at q ⊢
  clear hM
  have c5 := zC K1.out
  go_enter Tryz.func92, Tryz.ntmps92
  go_wp2_with fail
  with_reducible refine (q.out _).mono ?_
  rintro r w1 ⟨rfl, hb⟩
  replace K2 := zK K2 hb
  have HB := zH hb
  clear hb c5
  have lt2 := zL K2.out
  have c3 := cells_of_blk K2.out 3 _ rfl
  go_wp2_with fail
  go_quiet (fail)
  go_wp2_with fail
  refine bodyPost_ret (results_tmp3 rfl _ _ _) rfl ?_
  exact ⟨rfl, below_drewN HB.out _⟩
set_option maxRecDepth 100000 in
set_option maxHeartbeats 4000000 in
theorem order2_on (w0 : World) (g : Nat) (vh vs vo vr : Value) (b : Bk) (e : Ev) (rate : Int) (B0 : Hid (BkAt w0 (.agg #[vh, vs, vo, vr, .int .i64 b.n]) b)) (hs : Hid b.Small) (hi : Hid b.I64s) (hm : Hid (b.mayB = true)) (hE : Hid e.I64s) (h0 h1 h2 h3 : Int) (W : World) (p1 p2 p3 : Nat) (hp1 : Hid (W.heap[p1]? = some (.cells #[.pointer (some ⟨g, 0, none⟩)] 73 (0, 0)))) (hp2 : Hid (W.heap[p2]? = some (.cells #[.int .i64 e.kind, .int .i64 e.acc, .int .i64 e.ord, .int .i64 e.sym, .int .i64 e.side, .int .i64 e.qty, .int .i64 e.px] 29 (0, 0)))) (hp3 : Hid (W.heap[p3]? = some (.cells #[.int .i64 h0, .int .i64 h1, .int .i64 h2, .int .i64 h3] 82 (0, 0)))) :
    SideOn (Gt w0 g vh vs vo vr b e rate) W (.func (.func 94) #[] #[.pointer (some ⟨p1, 0, none⟩), .pointer (some ⟨p2, 0, none⟩), .pointer (some ⟨p3, 0, none⟩)]) (reachR b e.acc e.sym e.side e.qty).1 h2 (reachR b e.acc e.sym e.side e.qty).2 := by
  refine ⟨_, _, rfl, fun args w => enters_of Tryz.func94 (by kernel_rfl) rfl _ w, fun w l hI hW => ?_⟩
  have K1 : Hid (w.heap[p1]? = some (.cells #[.pointer (some ⟨g, 0, none⟩)] 73 (0, 0))) := hW.blk _ _ _ _ hp1.out (by decide) (by decide)
  have K2 : Hid (w.heap[p2]? = some (.cells #[.int .i64 e.kind, .int .i64 e.acc, .int .i64 e.ord, .int .i64 e.sym, .int .i64 e.side, .int .i64 e.qty, .int .i64 e.px] 29 (0, 0))) := hW.blk _ _ _ _ hp2.out (by decide) (by decide)
  have K3 : Hid (w.heap[p3]? = some (.cells #[.int .i64 h0, .int .i64 h1, .int .i64 h2, .int .i64 h3] 82 (0, 0))) := hW.blk _ _ _ _ hp3.out (by decide) (by decide)
  clear hp1 hp2 hp3
  obtain ⟨_, _, _, _, hv, r1, r2, r3, r4⟩ := B0.out
  injection hv with hv
  simp only [Array.mk.injEq, List.cons.injEq, and_true] at hv
  obtain ⟨rfl, rfl, rfl, rfl, _⟩ := hv
  obtain ⟨Ah, ch, rfl, _⟩ := r1
  obtain ⟨As, cs, rfl, _⟩ := r2
  obtain ⟨Ao, co, rfl, _⟩ := r3
  obtain ⟨Ar, cr, rfl, _⟩ := r4
  have HI := zH hI
  have HB : Hid (Below w.heap.size w w) := Below.refl _ _
  have KG := zH (HI.out.blk.imp fun _ h => h.1)
  clear hI hW
  have q := zH (fun u wz hv => Reach_any u b e.acc e.sym e.side e.qty wz hv hs hi (zH hE.out.qty))
  have hRP : reachP b e.acc e.sym e.side e.qty = reachR b e.acc e.sym e.side e.qty := by unfold reachP; rw [hm.out]; rfl
  rw [hRP] at q
  obtain ⟨M, hM⟩ : ∃ M, reachR b e.acc e.sym e.side e.qty = M := ⟨_, rfl⟩
  rw [hM] at q ⊢
  clear hM hRP
  go_enter Tryz.func94, Tryz.ntmps94
  go_wp2_with fail
  refine wp_region_D [] (fun wz : World => Hid (wz.heap[p1]? = some (.cells #[.pointer (some ⟨g, 0, none⟩)] 73 (0, 0))) ∧ Hid (wz.heap[p2]? = some (.cells #[.int .i64 e.kind, .int .i64 e.acc, .int .i64 e.ord, .int .i64 e.sym, .int .i64 e.side, .int .i64 e.qty, .int .i64 e.px] 29 (0, 0))) ∧ Hid (∃ vX : Value, wz.heap[g]? = some (.cells #[.slice Ah b.h.length ch, .slice As b.s.length cs, .slice Ao b.o.length co, .slice Ar b.r.length cr, .int .i64 b.n, .int .i64 e.kind, .int .i64 e.acc, .int .i64 e.ord, .int .i64 e.sym, .int .i64 e.side, .int .i64 e.qty, .int .i64 e.px, .int .i64 rate, vX] 75 (0, 0)))) 18 #[false, false, false, false, false, false, false, false, false, false, false, false, false, false, false, false, false, false] (by kernel_rfl) (by kernel_rfl) (by kernel_rfl) ?_
  obtain ⟨wd1, hwd1⟩ : ∃ wd1 : World, { w with drawn := w.drawn + 1 } = wd1 := ⟨_, rfl⟩
  rw [hwd1]
  have hbwd1 : Below w.heap.size w wd1 := by rw [← hwd1]; exact (Below.refl _ _).drew
  replace KG := zH ((KG.out.imp fun _ h => blk_call h hbwd1))
  replace K1 := zK K1 hbwd1
  replace K2 := zK K2 hbwd1
  replace K3 := zK K3 hbwd1
  replace HI := zH (HI.out.kept hbwd1)
  replace HB := zB HB hbwd1
  clear hwd1 hbwd1
  refine pure_moreD [0, 1, 2, 3, 4, 5, 6, 7, 8, 9, 10, 11] 6 (L' := #[true, true, true, true, true, true, true, true, true, true, true, true, false, false, false, false, false, false]) (by kernel_rfl) (by kernel_rfl) ⟨K1, K2, KG⟩ ?_
  simp only [opsAt, List.getElem?_toArray, List.getElem?_cons_zero, List.getElem?_cons_succ]
  refine pure_atG (.pointer (some ⟨g, 0, none⟩)) rfl (fun wz hC => by have c0 := cells_of_blk hC.1.out 0 _ rfl; unfold execOp; go_simp) ?_
  refine pure_atG (.pointer (some ⟨g, 0, none⟩)) rfl (fun wz _ => by unfold execOp; go_simp) ?_
  refine pure_atG (.pointer (some ⟨g, 0, none⟩)) rfl (fun wz _ => by unfold execOp; go_simp) ?_
  refine pure_atG (.agg #[.slice Ah b.h.length ch, .slice As b.s.length cs, .slice Ao b.o.length co, .slice Ar b.r.length cr, .int .i64 b.n]) rfl (fun wz hC => by obtain ⟨vX, hX⟩ := hC.2.2.out; have c0 := cells_of_blk hX 0 _ rfl; have c1 := cells_of_blk hX 1 _ rfl; have c2 := cells_of_blk hX 2 _ rfl; have c3 := cells_of_blk hX 3 _ rfl; have c4 := cells_of_blk hX 4 _ rfl; unfold execOp; go_simp) ?_
  refine pure_atG (.pointer (some ⟨p2, 1, none⟩)) rfl (fun wz _ => by unfold execOp; go_simp) ?_
  refine pure_atG (.int .i64 e.acc) rfl (fun wz hC => by have c0 := cells_of_blk hC.2.1.out 1 _ rfl; unfold execOp; go_simp) ?_
  refine pure_atG (.pointer (some ⟨p2, 3, none⟩)) rfl (fun wz _ => by unfold execOp; go_simp) ?_
  refine pure_atG (.int .i64 e.sym) rfl (fun wz hC => by have c0 := cells_of_blk hC.2.1.out 3 _ rfl; unfold execOp; go_simp) ?_
  refine pure_atG (.pointer (some ⟨p2, 4, none⟩)) rfl (fun wz _ => by unfold execOp; go_simp) ?_
  refine pure_atG (.int .i64 e.side) rfl (fun wz hC => by have c0 := cells_of_blk hC.2.1.out 4 _ rfl; unfold execOp; go_simp) ?_
  refine pure_atG (.pointer (some ⟨p2, 5, none⟩)) rfl (fun wz _ => by unfold execOp; go_simp) ?_
  refine pure_atG (.int .i64 e.qty) rfl (fun wz hC => by have c0 := cells_of_blk hC.2.1.out 5 _ rfl; unfold execOp; go_simp) ?_
  unfold wpPure
  go_simp
  refine wpAnyD_one 12 (f := 5) (L' := #[true, true, true, true, true, true, true, true, true, true, true, true, true, false, false, false, false, false]) (by kernel_rfl) (by kernel_rfl) rfl rfl ?_
  go_wp2_with fail
  with_reducible refine (q.out _ _ (zH (B0.out.call HI.out.below))).mono ?_
  rintro e wc2 ⟨rfl, hb⟩
  replace KG := zH ((KG.out.imp fun _ h => blk_call h hb))
  replace K1 := zK K1 hb
  replace K2 := zK K2 hb
  replace K3 := zK K3 hb
  replace HI := zH (HI.out.kept hb)
  replace HB := zB HB hb
  clear hb
  go_wp2_with fail
  rw [StepQ_normal]
  refine ⟨fun _ => ⟨K1, K2, KG⟩, ?_⟩
  refine pure_moreD [13, 14, 15, 16, 17] 0 (L' := #[true, true, true, true, true, true, true, true, true, true, true, true, true, true, true, true, true, true]) (by kernel_rfl) (by kernel_rfl) ⟨K1, K2, KG⟩ ?_
  simp only [opsAt, List.getElem?_toArray, List.getElem?_cons_zero, List.getElem?_cons_succ]
  refine pure_moveG rfl rfl ?_
  refine pure_atG (.int .i64 M.1) rfl (fun wz _ => by unfold execOp; go_simp) ?_
  refine pure_atG (.bool M.2) rfl (fun wz _ => by unfold execOp; go_simp) ?_
  refine pure_atG (.int .i64 M.1) rfl (fun wz _ => by unfold execOp; go_simp) ?_
  refine pure_atG (.bool M.2) rfl (fun wz _ => by unfold execOp; go_simp) ?_
  unfold wpPure
  go_simp
  refine ⟨by kernel_rfl, ?_⟩
  rw [OnlyN_normal]
  have c_h_0 := zC K3.out
  have lt2 := zL K3.out
  go_wp2_with fail
  go_quiet (fail)
  go_wp2_with fail
  refine bodyPost_ret (results_tmp3 rfl _ _ _) rfl ?_
  exact ⟨rfl, below_drewN HB.out _⟩
set_option maxRecDepth 100000 in
set_option maxHeartbeats 4000000 in
theorem order3_on (w0 : World) (g : Nat) (vh vs vo vr : Value) (b : Bk) (e : Ev) (rate : Int) (B0 : Hid (BkAt w0 (.agg #[vh, vs, vo, vr, .int .i64 b.n]) b)) (hs : Hid b.Small) (hi : Hid b.I64s) (hm : Hid (b.mayB = true)) (hE : Hid e.I64s) (W : World) (p1 p2 : Nat) (hp1 : Hid (W.heap[p1]? = some (.cells #[.pointer (some ⟨g, 0, none⟩)] 73 (0, 0)))) (hp2 : Hid (W.heap[p2]? = some (.cells #[.int .i64 e.kind, .int .i64 e.acc, .int .i64 e.ord, .int .i64 e.sym, .int .i64 e.side, .int .i64 e.qty, .int .i64 e.px] 29 (0, 0)))) :
    SideOn (Gt w0 g vh vs vo vr b e rate) W (.func (.func 96) #[] #[.pointer (some ⟨p1, 0, none⟩), .pointer (some ⟨p2, 0, none⟩)]) (needE b e rate).1 (eqR b e.acc).1 ((needE b e rate).2 && (eqR b e.acc).2) := by
  refine ⟨_, _, rfl, fun args w => enters_of Tryz.func96 (by kernel_rfl) rfl _ w, fun w l hI hW => ?_⟩
  have K1 : Hid (w.heap[p1]? = some (.cells #[.pointer (some ⟨g, 0, none⟩)] 73 (0, 0))) := hW.blk _ _ _ _ hp1.out (by decide) (by decide)
  have K2 : Hid (w.heap[p2]? = some (.cells #[.int .i64 e.kind, .int .i64 e.acc, .int .i64 e.ord, .int .i64 e.sym, .int .i64 e.side, .int .i64 e.qty, .int .i64 e.px] 29 (0, 0))) := hW.blk _ _ _ _ hp2.out (by decide) (by decide)
  clear hp1 hp2
  obtain ⟨_, _, _, _, hv, r1, r2, r3, r4⟩ := B0.out
  injection hv with hv
  simp only [Array.mk.injEq, List.cons.injEq, and_true] at hv
  obtain ⟨rfl, rfl, rfl, rfl, _⟩ := hv
  obtain ⟨Ah, ch, rfl, _⟩ := r1
  obtain ⟨As, cs, rfl, _⟩ := r2
  obtain ⟨Ao, co, rfl, _⟩ := r3
  obtain ⟨Ar, cr, rfl, _⟩ := r4
  have HI := zH hI
  have HB : Hid (Below w.heap.size w w) := Below.refl _ _
  have KG := zH (HI.out.blk.imp fun _ h => h.1)
  clear hI hW
  have q := zH (fun u wz hv => Need_any u b e.acc e.qty e.px rate wz hv hs hi (zH hE.out.qty) (zH hE.out.px))
  have q2 := zH (fun u wz hv => Equity_any u b e.acc wz hv hs hi)
  have hRP : needP b e.acc e.qty e.px rate = needE b e rate := by unfold needP needE; rw [hm.out]; rfl
  have hRQ : eqP b e.acc = eqR b e.acc := by unfold eqP eqR; rw [hm.out]; rfl
  rw [hRP] at q
  rw [hRQ] at q2
  obtain ⟨M, hM⟩ : ∃ M, needE b e rate = M := ⟨_, rfl⟩
  obtain ⟨N, hN⟩ : ∃ N, eqR b e.acc = N := ⟨_, rfl⟩
  rw [hM] at q ⊢
  rw [hN] at q2 ⊢
  clear hM hRP hN hRQ
  obtain ⟨M1, M2⟩ := M
  obtain ⟨N1, N2⟩ := N
  go_enter Tryz.func96, Tryz.ntmps96
  go_wp2_with fail
  refine wp_region_D [] (fun wz : World => Hid (wz.heap[p1]? = some (.cells #[.pointer (some ⟨g, 0, none⟩)] 73 (0, 0))) ∧ Hid (wz.heap[p2]? = some (.cells #[.int .i64 e.kind, .int .i64 e.acc, .int .i64 e.ord, .int .i64 e.sym, .int .i64 e.side, .int .i64 e.qty, .int .i64 e.px] 29 (0, 0))) ∧ Hid (∃ vX : Value, wz.heap[g]? = some (.cells #[.slice Ah b.h.length ch, .slice As b.s.length cs, .slice Ao b.o.length co, .slice Ar b.r.length cr, .int .i64 b.n, .int .i64 e.kind, .int .i64 e.acc, .int .i64 e.ord, .int .i64 e.sym, .int .i64 e.side, .int .i64 e.qty, .int .i64 e.px, .int .i64 rate, vX] 75 (0, 0)))) 20 #[false, false, false, false, false, false, false, false, false, false, false, false, false, false, false, false, false, false, false, false] (by kernel_rfl) (by kernel_rfl) (by kernel_rfl) ?_
  obtain ⟨wd1, hwd1⟩ : ∃ wd1 : World, { w with drawn := w.drawn + 1 } = wd1 := ⟨_, rfl⟩
  rw [hwd1]
  have hbwd1 : Below w.heap.size w wd1 := by rw [← hwd1]; exact (Below.refl _ _).drew
  replace KG := zH ((KG.out.imp fun _ h => blk_call h hbwd1))
  replace K1 := zK K1 hbwd1
  replace K2 := zK K2 hbwd1
  replace HI := zH (HI.out.kept hbwd1)
  replace HB := zB HB hbwd1
  clear hwd1 hbwd1
  refine pure_moreD [0, 1, 2, 3, 4, 5, 6, 7, 8, 9, 10, 11, 12, 13] 6 (L' := #[true, true, true, true, true, true, true, true, true, true, true, true, true, true, false, false, false, false, false, false]) (by kernel_rfl) (by kernel_rfl) ⟨K1, K2, KG⟩ ?_
  simp only [opsAt, List.getElem?_toArray, List.getElem?_cons_zero, List.getElem?_cons_succ]
  refine pure_atG (.pointer (some ⟨g, 0, none⟩)) rfl (fun wz hC => by have c0 := cells_of_blk hC.1.out 0 _ rfl; unfold execOp; go_simp) ?_
  refine pure_atG (.pointer (some ⟨g, 0, none⟩)) rfl (fun wz _ => by unfold execOp; go_simp) ?_
  refine pure_atG (.pointer (some ⟨g, 0, none⟩)) rfl (fun wz _ => by unfold execOp; go_simp) ?_
  refine pure_atG (.agg #[.slice Ah b.h.length ch, .slice As b.s.length cs, .slice Ao b.o.length co, .slice Ar b.r.length cr, .int .i64 b.n]) rfl (fun wz hC => by obtain ⟨vX, hX⟩ := hC.2.2.out; have c0 := cells_of_blk hX 0 _ rfl; have c1 := cells_of_blk hX 1 _ rfl; have c2 := cells_of_blk hX 2 _ rfl; have c3 := cells_of_blk hX 3 _ rfl; have c4 := cells_of_blk hX 4 _ rfl; unfold execOp; go_simp) ?_
  refine pure_atG (.pointer (some ⟨p2, 1, none⟩)) rfl (fun wz _ => by unfold execOp; go_simp) ?_
  refine pure_atG (.int .i64 e.acc) rfl (fun wz hC => by have c0 := cells_of_blk hC.2.1.out 1 _ rfl; unfold execOp; go_simp) ?_
  refine pure_atG (.pointer (some ⟨p2, 5, none⟩)) rfl (fun wz _ => by unfold execOp; go_simp) ?_
  refine pure_atG (.int .i64 e.qty) rfl (fun wz hC => by have c0 := cells_of_blk hC.2.1.out 5 _ rfl; unfold execOp; go_simp) ?_
  refine pure_atG (.pointer (some ⟨p2, 6, none⟩)) rfl (fun wz _ => by unfold execOp; go_simp) ?_
  refine pure_atG (.int .i64 e.px) rfl (fun wz hC => by have c0 := cells_of_blk hC.2.1.out 6 _ rfl; unfold execOp; go_simp) ?_
  refine pure_atG (.pointer (some ⟨g, 0, none⟩)) rfl (fun wz hC => by have c0 := cells_of_blk hC.1.out 0 _ rfl; unfold execOp; go_simp) ?_
  refine pure_atG (.pointer (some ⟨g, 0, none⟩)) rfl (fun wz _ => by unfold execOp; go_simp) ?_
  refine pure_atG (.pointer (some ⟨g, 12, none⟩)) rfl (fun wz _ => by unfold execOp; go_simp) ?_
  refine pure_atG (.int .i64 rate) rfl (fun wz hC => by obtain ⟨vX, hX⟩ := hC.2.2.out; have c0 := cells_of_blk hX 12 _ rfl; unfold execOp; go_simp) ?_
  unfold wpPure
  go_simp
  refine wpAnyD_one 14 (f := 5) (L' := #[true, true, true, true, true, true, true, true, true, true, true, true, true, true, true, false, false, false, false, false]) (by kernel_rfl) (by kernel_rfl) rfl rfl ?_
  go_wp2_with fail
  with_reducible refine (q.out _ _ (zH (B0.out.call HI.out.below))).mono ?_
  rintro e wc2 ⟨rfl, hb⟩
  replace KG := zH ((KG.out.imp fun _ h => blk_call h hb))
  replace K1 := zK K1 hb
  replace K2 := zK K2 hb
  replace HI := zH (HI.out.kept hb)
  replace HB := zB HB hb
  clear hb
  go_wp2_with fail
  rw [StepQ_normal]
  refine ⟨fun _ => ⟨K1, K2, KG⟩, ?_⟩
  refine pure_moreD [15, 16, 17, 18, 19] 0 (L' := #[true, true, true, true, true, true, true, true, true, true, true, true, true, true, true, true, true, true, true, true]) (by kernel_rfl) (by kernel_rfl) ⟨K1, K2, KG⟩ ?_
  simp only [opsAt, List.getElem?_toArray, List.getElem?_cons_zero, List.getElem?_cons_succ]
  refine pure_moveG rfl rfl ?_
  refine pure_atG (.int .i64 M1) rfl (fun wz _ => by unfold execOp; go_simp) ?_
  refine pure_atG (.bool M2) rfl (fun wz _ => by unfold execOp; go_simp) ?_
  refine pure_atG (.int .i64 M1) rfl (fun wz _ => by unfold execOp; go_simp) ?_
  refine pure_atG (.bool M2) rfl (fun wz _ => by unfold execOp; go_simp) ?_
  unfold wpPure
  go_simp
  refine ⟨by kernel_rfl, ?_⟩
  rw [OnlyN_normal]
  go_wp2_with fail
  refine wp_region_D [] (fun wz : World => Hid (wz.heap[p1]? = some (.cells #[.pointer (some ⟨g, 0, none⟩)] 73 (0, 0))) ∧ Hid (wz.heap[p2]? = some (.cells #[.int .i64 e.kind, .int .i64 e.acc, .int .i64 e.ord, .int .i64 e.sym, .int .i64 e.side, .int .i64 e.qty, .int .i64 e.px] 29 (0, 0))) ∧ Hid (∃ vX : Value, wz.heap[g]? = some (.cells #[.slice Ah b.h.length ch, .slice As b.s.length cs, .slice Ao b.o.length co, .slice Ar b.r.length cr, .int .i64 b.n, .int .i64 e.kind, .int .i64 e.acc, .int .i64 e.ord, .int .i64 e.sym, .int .i64 e.side, .int .i64 e.qty, .int .i64 e.px, .int .i64 rate, vX] 75 (0, 0)))) 12 #[false, false, false, false, false, false, false, false, false, false, false, false] (by kernel_rfl) (by kernel_rfl) (by kernel_rfl) ?_
  obtain ⟨wd3, hwd3⟩ : ∃ wd3 : World, { wc2 with drawn := wc2.drawn + 1 } = wd3 := ⟨_, rfl⟩
  rw [hwd3]
  have hbwd3 : Below wc2.heap.size wc2 wd3 := by rw [← hwd3]; exact (Below.refl _ _).drew
  replace KG := zH ((KG.out.imp fun _ h => blk_call h hbwd3))
  replace K1 := zK K1 hbwd3
  replace K2 := zK K2 hbwd3
  replace HI := zH (HI.out.kept hbwd3)
  replace HB := zB HB hbwd3
  clear hwd3 hbwd3
  refine pure_moreD [0, 1, 2, 3, 4, 5] 6 (L' := #[true, true, true, true, true, true, false, false, false, false, false, false]) (by kernel_rfl) (by kernel_rfl) ⟨K1, K2, KG⟩ ?_
  simp only [opsAt, List.getElem?_toArray, List.getElem?_cons_zero, List.getElem?_cons_succ]
  refine pure_atG (.pointer (some ⟨g, 0, none⟩)) rfl (fun wz hC => by have c0 := cells_of_blk hC.1.out 0 _ rfl; unfold execOp; go_simp) ?_
  refine pure_atG (.pointer (some ⟨g, 0, none⟩)) rfl (fun wz _ => by unfold execOp; go_simp) ?_
  refine pure_atG (.pointer (some ⟨g, 0, none⟩)) rfl (fun wz _ => by unfold execOp; go_simp) ?_
  refine pure_atG (.agg #[.slice Ah b.h.length ch, .slice As b.s.length cs, .slice Ao b.o.length co, .slice Ar b.r.length cr, .int .i64 b.n]) rfl (fun wz hC => by obtain ⟨vX, hX⟩ := hC.2.2.out; have c0 := cells_of_blk hX 0 _ rfl; have c1 := cells_of_blk hX 1 _ rfl; have c2 := cells_of_blk hX 2 _ rfl; have c3 := cells_of_blk hX 3 _ rfl; have c4 := cells_of_blk hX 4 _ rfl; unfold execOp; go_simp) ?_
  refine pure_atG (.pointer (some ⟨p2, 1, none⟩)) rfl (fun wz _ => by unfold execOp; go_simp) ?_
  refine pure_atG (.int .i64 e.acc) rfl (fun wz hC => by have c0 := cells_of_blk hC.2.1.out 1 _ rfl; unfold execOp; go_simp) ?_
  unfold wpPure
  go_simp
  refine wpAnyD_one 6 (f := 5) (L' := #[true, true, true, true, true, true, true, false, false, false, false, false]) (by kernel_rfl) (by kernel_rfl) rfl rfl ?_
  go_wp2_with fail
  with_reducible refine (q2.out _ _ (zH (B0.out.call HI.out.below))).mono ?_
  rintro e wc4 ⟨rfl, hb⟩
  replace KG := zH ((KG.out.imp fun _ h => blk_call h hb))
  replace K1 := zK K1 hb
  replace K2 := zK K2 hb
  replace HI := zH (HI.out.kept hb)
  replace HB := zB HB hb
  clear hb
  go_wp2_with fail
  rw [StepQ_normal]
  refine ⟨fun _ => ⟨K1, K2, KG⟩, ?_⟩
  refine pure_moreD [7, 8, 9, 10, 11] 0 (L' := #[true, true, true, true, true, true, true, true, true, true, true, true]) (by kernel_rfl) (by kernel_rfl) ⟨K1, K2, KG⟩ ?_
  simp only [opsAt, List.getElem?_toArray, List.getElem?_cons_zero, List.getElem?_cons_succ]
  refine pure_moveG rfl rfl ?_
  refine pure_atG (.int .i64 N1) rfl (fun wz _ => by unfold execOp; go_simp) ?_
  refine pure_atG (.bool N2) rfl (fun wz _ => by unfold execOp; go_simp) ?_
  refine pure_atG (.int .i64 N1) rfl (fun wz _ => by unfold execOp; go_simp) ?_
  refine pure_atG (.bool N2) rfl (fun wz _ => by unfold execOp; go_simp) ?_
  unfold wpPure
  go_simp
  refine ⟨by kernel_rfl, ?_⟩
  rw [OnlyN_normal]
  cases M2 with
  | true =>
    go_wp2_with fail
    refine bodyPost_ret (results_tmp3 rfl _ _ _) rfl ?_
    exact ⟨rfl, HB.out⟩
  | false =>
    go_wp2_with fail
    refine bodyPost_ret (results_tmp3 rfl _ _ _) rfl ?_
    exact ⟨rfl, HB.out⟩
set_option maxRecDepth 100000 in
set_option maxHeartbeats 2000000 in
theorem fill1_on (w0 : World) (g : Nat) (vh vs vo vr : Value) (b : Bk) (e : Ev) (rate : Int) (c : Int) (x : Bool) (W : World) (p1 p2 : Nat) (hp1 : Hid (W.heap[p1]? = some (.cells #[.int .i64 c] 2 (0, 0)))) (hp2 : Hid (W.heap[p2]? = some (.cells #[.bool x] 4 (0, 0)))) :
    SideOn (Gt w0 g vh vs vo vr b e rate) W (.func (.func 101) #[] #[.pointer (some ⟨p1, 0, none⟩), .pointer (some ⟨p2, 0, none⟩)]) c c x := by
  refine ⟨_, _, rfl, fun args w => enters_of Tryz.func101 (by kernel_rfl) rfl _ w, fun w l hI hW => ?_⟩
  have K1 : Hid (w.heap[p1]? = some (.cells #[.int .i64 c] 2 (0, 0))) := hW.blk _ _ _ _ hp1.out (by decide) (by decide)
  have K2 : Hid (w.heap[p2]? = some (.cells #[.bool x] 4 (0, 0))) := hW.blk _ _ _ _ hp2.out (by decide) (by decide)
  clear hp1 hp2 hI hW
  have c1 := cells_of_blk K1.out 0 _ rfl
  have c2 := cells_of_blk K2.out 0 _ rfl
  have lt1 := zL K1.out
  have lt2 := zL K2.out
  go_enter Tryz.func101, Tryz.ntmps101
  go_wp2_with fail
  go_quiet (fail)
  go_wp2_with fail
  refine bodyPost_ret (results_tmp3 rfl _ _ _) rfl ?_
  exact ⟨rfl, below_drewN (Below.refl _ _) _⟩
set_option maxRecDepth 100000 in
set_option maxHeartbeats 2000000 in
theorem fill2_on (w0 : World) (g : Nat) (vh vs vo vr : Value) (b : Bk) (e : Ev) (rate : Int) (c : Int) (x : Bool) (W : World) (p1 p2 : Nat) (hp1 : Hid (W.heap[p1]? = some (.cells #[.int .i64 c] 2 (0, 0)))) (hp2 : Hid (W.heap[p2]? = some (.cells #[.bool x] 4 (0, 0)))) :
    SideOn (Gt w0 g vh vs vo vr b e rate) W (.func (.func 102) #[] #[.pointer (some ⟨p1, 0, none⟩), .pointer (some ⟨p2, 0, none⟩)]) c c x := by
  refine ⟨_, _, rfl, fun args w => enters_of Tryz.func102 (by kernel_rfl) rfl _ w, fun w l hI hW => ?_⟩
  have K1 : Hid (w.heap[p1]? = some (.cells #[.int .i64 c] 2 (0, 0))) := hW.blk _ _ _ _ hp1.out (by decide) (by decide)
  have K2 : Hid (w.heap[p2]? = some (.cells #[.bool x] 4 (0, 0))) := hW.blk _ _ _ _ hp2.out (by decide) (by decide)
  clear hp1 hp2 hI hW
  have c1 := cells_of_blk K1.out 0 _ rfl
  have c2 := cells_of_blk K2.out 0 _ rfl
  have lt1 := zL K1.out
  have lt2 := zL K2.out
  go_enter Tryz.func102, Tryz.ntmps102
  go_wp2_with fail
  go_quiet (fail)
  go_wp2_with fail
  refine bodyPost_ret (results_tmp3 rfl _ _ _) rfl ?_
  exact ⟨rfl, below_drewN (Below.refl _ _) _⟩
end Go.Proofs.YtjcdpmianmgiaaaGreatDoor
namespace Go.Proofs.YtjcdpmianmgiaaaGreatDoor
open Go Go.RowKit
set_option linter.unusedVariables false
set_option linter.unusedSimpArgs false
theorem setH_rise (id : Int) (x : List Int) (out : Bool) {l : List (List Int)} (hr : riseH l) (hx : x.headD 0 = id) : riseH (setH id x out l) := by
  obtain ⟨p, hp, hlt, _⟩ := placeH id hr
  have e := setH_at id x out hr hp hlt
  obtain ⟨F, hF, e⟩ : ∃ F : Bool, (∀ r, l[p]? = some r → F = decide (r.headD 0 = id)) ∧ setH id x out l = l.take p ++ ((if out then [] else [x]) ++ l.drop (if F then p + 1 else p)) := ⟨_, fun r hr => by rw [hr], e⟩
  rw [e]
  have h1 : ∀ r ∈ l.take p, r.headD 0 < id := fun r hm => by
    obtain ⟨k, hk⟩ := List.getElem?_of_mem hm
    rw [List.getElem?_take] at hk
    split at hk
    · rename_i hkp; exact (hlt k r hk).2 hkp
    · cases hk
  obtain ⟨q, hq⟩ : ∃ q, (if F then p + 1 else p) = q := ⟨_, rfl⟩
  have h2 : ∀ r ∈ l.drop q, id < r.headD 0 := fun r hm => by
    obtain ⟨k, hk⟩ := List.getElem?_of_mem hm
    rw [List.getElem?_drop] at hk
    have hkl := (List.getElem?_eq_some_iff.1 hk).1
    have hqp : p ≤ q := by rw [← hq]; cases F <;> simp
    have hpl : p < l.length := by omega
    have hge : ¬ l[p].headD 0 < id := fun h => by have := (hlt p _ (List.getElem?_eq_getElem hpl)).1 h; omega
    by_cases he : q + k = p
    · rw [he] at hk
      have hne : q = p := by omega
      have hFr := hF r hk
      have hr' : l[p] = r := by rw [List.getElem?_eq_getElem hpl] at hk; injection hk
      rw [hr'] at hge
      by_cases hid : r.headD 0 = id
      · exfalso
        rw [decide_eq_true hid] at hFr
        subst hFr
        simp only [if_true] at hq
        omega
      · omega
    · have h3 := (List.pairwise_iff_getElem.1 hr) p (q + k) hpl hkl (by omega)
      have hr' : l[q + k] = r := by rw [List.getElem?_eq_getElem hkl] at hk; injection hk
      rw [hr'] at h3
      omega
  rw [hq]
  unfold riseH at *
  rw [List.pairwise_append]
  refine ⟨hr.sublist (List.take_sublist _ _), ?_, ?_⟩
  · cases out with
    | true => exact hr.sublist (List.drop_sublist _ _)
    | false => exact List.pairwise_cons.2 ⟨fun r hm => by have := h2 r hm; omega, hr.sublist (List.drop_sublist _ _)⟩
  · intro a ha b hb
    have ha' := h1 a ha
    rcases List.mem_append.1 hb with hb | hb
    · cases out with
      | true => simp at hb
      | false => simp at hb; subst hb; omega
    · have := h2 b hb; omega
theorem setS_rise (kx ky : Int) (x : List Int) (out : Bool) {l : List (List Int)} (hr : riseS l) (hx : x.headD 0 = kx) (hy : x.tail.headD 0 = ky) : riseS (setS kx ky x out l) := by
  obtain ⟨p, hp, hlt, _⟩ := placeS kx ky hr
  have e := setS_at kx ky x out hr hp hlt
  obtain ⟨F, hF, e⟩ : ∃ F : Bool, (∀ r, l[p]? = some r → F = decide (r.headD 0 = kx ∧ r.tail.headD 0 = ky)) ∧ setS kx ky x out l = l.take p ++ ((if out then [] else [x]) ++ l.drop (if F then p + 1 else p)) := ⟨_, fun r hr => by rw [hr], e⟩
  rw [e]
  have h1 : ∀ r ∈ l.take p, stLt r kx ky := fun r hm => by
    obtain ⟨k, hk⟩ := List.getElem?_of_mem hm
    rw [List.getElem?_take] at hk
    split at hk
    · rename_i hkp; exact (hlt k r hk).2 hkp
    · cases hk
  obtain ⟨q, hq⟩ : ∃ q, (if F then p + 1 else p) = q := ⟨_, rfl⟩
  have h2 : ∀ r ∈ l.drop q, kx < r.headD 0 ∨ kx = r.headD 0 ∧ ky < r.tail.headD 0 := fun r hm => by
    obtain ⟨k, hk⟩ := List.getElem?_of_mem hm
    rw [List.getElem?_drop] at hk
    have hkl := (List.getElem?_eq_some_iff.1 hk).1
    have hqp : p ≤ q := by rw [← hq]; cases F <;> simp
    have hpl : p < l.length := by omega
    have hge : ¬ stLt l[p] kx ky := fun h => by have := (hlt p _ (List.getElem?_eq_getElem hpl)).1 h; omega
    by_cases he : q + k = p
    · rw [he] at hk
      have hne : q = p := by omega
      have hFr := hF r hk
      have hr' : l[p] = r := by rw [List.getElem?_eq_getElem hpl] at hk; injection hk
      rw [hr'] at hge
      by_cases hid : r.headD 0 = kx ∧ r.tail.headD 0 = ky
      · exfalso
        rw [decide_eq_true hid] at hFr
        subst hFr
        simp only [if_true] at hq
        omega
      · unfold stLt at hge; omega
    · have h3 := (List.pairwise_iff_getElem.1 hr) p (q + k) hpl hkl (by omega)
      have hr' : l[q + k] = r := by rw [List.getElem?_eq_getElem hkl] at hk; injection hk
      rw [hr'] at h3
      unfold stLt at h3 hge
      omega
  rw [hq]
  unfold riseS at *
  rw [List.pairwise_append]
  refine ⟨hr.sublist (List.take_sublist _ _), ?_, ?_⟩
  · cases out with
    | true => exact hr.sublist (List.drop_sublist _ _)
    | false => exact List.pairwise_cons.2 ⟨fun r hm => by have := h2 r hm; unfold stLt; omega, hr.sublist (List.drop_sublist _ _)⟩
  · intro a ha b hb
    have ha' := h1 a ha
    rcases List.mem_append.1 hb with hb | hb
    · cases out with
      | true => simp at hb
      | false => simp only [Bool.false_eq_true, if_false, List.mem_singleton] at hb; subst hb; rw [hx, hy]; exact ha'
    · have := h2 b hb; unfold stLt at ha' ⊢; omega
end Go.Proofs.YtjcdpmianmgiaaaGreatDoor
