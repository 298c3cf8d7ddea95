/- The reference's Table (printed by genRuleH.py). -/
import Derived.Test.YteeemoknbnlopaaDoorRuleG
namespace Go.Proofs.YteeemoknbnlopaaDoor
open Go Go.RowKit
set_option linter.unusedVariables false

def tabL : List Value := [.string ⟨#[]⟩, .int .i64 0, .int .i64 0, .string ⟨#[107, 105, 110, 100, 32, 97, 116, 32, 108, 101, 97, 115, 116]⟩, .int .i64 2, .int .i64 1, .string ⟨#[107, 105, 110, 100, 32, 97, 116, 32, 109, 111, 115, 116]⟩, .int .i64 1, .int .i64 1, .string ⟨#[115, 105, 100, 101, 32, 97, 116, 32, 108, 101, 97, 115, 116]⟩, .int .i64 2, .int .i64 2, .string ⟨#[115, 105, 100, 101, 32, 97, 116, 32, 109, 111, 115, 116]⟩, .int .i64 1, .int .i64 2, .string ⟨#[113, 117, 97, 110, 116, 105, 116, 121]⟩, .int .i64 2, .int .i64 2, .string ⟨#[112, 114, 105, 99, 101]⟩, .int .i64 2, .int .i64 2, .string ⟨#[99, 97, 115, 104]⟩, .int .i64 2, .int .i64 2, .string ⟨#[108, 105, 109, 105, 116, 32, 111, 102, 32, 112, 111, 115, 105, 116, 105, 111, 110]⟩, .int .i64 2, .int .i64 2, .string ⟨#[108, 105, 109, 105, 116, 32, 111, 102, 32, 111, 114, 100, 101, 114]⟩, .int .i64 2, .int .i64 2, .string ⟨#[97, 99, 99, 111, 117, 110, 116, 32, 107, 110, 111, 119, 110]⟩, .int .i64 3, .int .i64 3, .string ⟨#[97, 99, 99, 111, 117, 110, 116, 32, 110, 101, 119]⟩, .int .i64 3, .int .i64 4, .string ⟨#[111, 114, 100, 101, 114, 32, 110, 101, 119]⟩, .int .i64 3, .int .i64 5, .string ⟨#[111, 114, 100, 101, 114, 32, 107, 110, 111, 119, 110]⟩, .int .i64 3, .int .i64 6, .string ⟨#[115, 121, 109, 98, 111, 108, 32, 112, 114, 105, 99, 101, 100]⟩, .int .i64 3, .int .i64 7, .string ⟨#[114, 111, 111, 109, 32, 111, 102, 32, 97, 99, 99, 111, 117, 110, 116, 115]⟩, .int .i64 1, .int .i64 8, .string ⟨#[114, 111, 111, 109, 32, 111, 102, 32, 111, 114, 100, 101, 114, 115]⟩, .int .i64 1, .int .i64 8, .string ⟨#[114, 111, 111, 109, 32, 111, 102, 32, 112, 114, 105, 99, 101, 115]⟩, .int .i64 1, .int .i64 8, .string ⟨#[119, 111, 114, 116, 104]⟩, .int .i64 1, .int .i64 9, .string ⟨#[114, 101, 97, 99, 104]⟩, .int .i64 1, .int .i64 10, .string ⟨#[109, 97, 114, 103, 105, 110]⟩, .int .i64 1, .int .i64 11, .string ⟨#[102, 105, 108, 108, 101, 100]⟩, .int .i64 1, .int .i64 2, .string ⟨#[99, 97, 115, 104, 32, 98, 101, 104, 105, 110, 100]⟩, .int .i64 3, .int .i64 12, .string ⟨#[112, 111, 115, 105, 116, 105, 111, 110, 32, 98, 101, 104, 105, 110, 100]⟩, .int .i64 3, .int .i64 12]
theorem tab_at : ∀ n, n < 24 → tabL[n * 3]? = some (.string ⟨(Rule.name n).toArray⟩) ∧ tabL[n * 3 + 1]? = some (.int .i64 (Rule.rel n)) ∧ tabL[n * 3 + 2]? = some (.int .i64 (Rule.code n))
  | 0, _ => ⟨rfl, rfl, rfl⟩
  | 1, _ => ⟨rfl, rfl, rfl⟩
  | 2, _ => ⟨rfl, rfl, rfl⟩
  | 3, _ => ⟨rfl, rfl, rfl⟩
  | 4, _ => ⟨rfl, rfl, rfl⟩
  | 5, _ => ⟨rfl, rfl, rfl⟩
  | 6, _ => ⟨rfl, rfl, rfl⟩
  | 7, _ => ⟨rfl, rfl, rfl⟩
  | 8, _ => ⟨rfl, rfl, rfl⟩
  | 9, _ => ⟨rfl, rfl, rfl⟩
  | 10, _ => ⟨rfl, rfl, rfl⟩
  | 11, _ => ⟨rfl, rfl, rfl⟩
  | 12, _ => ⟨rfl, rfl, rfl⟩
  | 13, _ => ⟨rfl, rfl, rfl⟩
  | 14, _ => ⟨rfl, rfl, rfl⟩
  | 15, _ => ⟨rfl, rfl, rfl⟩
  | 16, _ => ⟨rfl, rfl, rfl⟩
  | 17, _ => ⟨rfl, rfl, rfl⟩
  | 18, _ => ⟨rfl, rfl, rfl⟩
  | 19, _ => ⟨rfl, rfl, rfl⟩
  | 20, _ => ⟨rfl, rfl, rfl⟩
  | 21, _ => ⟨rfl, rfl, rfl⟩
  | 22, _ => ⟨rfl, rfl, rfl⟩
  | 23, _ => ⟨rfl, rfl, rfl⟩
  | n + 24, h => absurd h (by omega)

set_option maxRecDepth 100000 in
set_option maxHeartbeats 4000000 in
theorem Table_in (n : Nat) (h0 : 0 < n) (h1 : n < 24) (w : World) : Calls Tryd.prog 19 #[.int .i64 n] w fun e w' => e = .returned (.agg #[.string ⟨(Rule.name n).toArray⟩, .int .i64 (Rule.rel n), .int .i64 (Rule.code n)]) ∧ Below w.heap.size w w' := by
  have t0 : decide ((n : Int) < 1) = false := decide_eq_false (by omega)
  have t1 : decide (23 < (n : Int)) = false := decide_eq_false (by omega)
  have hf := (tab_at n h1)
  generalize Rule.name n = nm at *
  generalize Rule.rel n = rl at *
  generalize Rule.code n = cd at *
  obtain ⟨f0, f1, f2⟩ := hf
  have hl0 : ([.string ⟨#[]⟩, .int .i64 0, .int .i64 0, .string ⟨#[107, 105, 110, 100, 32, 97, 116, 32, 108, 101, 97, 115, 116]⟩, .int .i64 2, .int .i64 1, .string ⟨#[107, 105, 110, 100, 32, 97, 116, 32, 109, 111, 115, 116]⟩, .int .i64 1, .int .i64 1, .string ⟨#[115, 105, 100, 101, 32, 97, 116, 32, 108, 101, 97, 115, 116]⟩, .int .i64 2, .int .i64 2, .string ⟨#[115, 105, 100, 101, 32, 97, 116, 32, 109, 111, 115, 116]⟩, .int .i64 1, .int .i64 2, .string ⟨#[113, 117, 97, 110, 116, 105, 116, 121]⟩, .int .i64 2, .int .i64 2, .string ⟨#[112, 114, 105, 99, 101]⟩, .int .i64 2, .int .i64 2, .string ⟨#[99, 97, 115, 104]⟩, .int .i64 2, .int .i64 2, .string ⟨#[108, 105, 109, 105, 116, 32, 111, 102, 32, 112, 111, 115, 105, 116, 105, 111, 110]⟩, .int .i64 2, .int .i64 2, .string ⟨#[108, 105, 109, 105, 116, 32, 111, 102, 32, 111, 114, 100, 101, 114]⟩, .int .i64 2, .int .i64 2, .string ⟨#[97, 99, 99, 111, 117, 110, 116, 32, 107, 110, 111, 119, 110]⟩, .int .i64 3, .int .i64 3, .string ⟨#[97, 99, 99, 111, 117, 110, 116, 32, 110, 101, 119]⟩, .int .i64 3, .int .i64 4, .string ⟨#[111, 114, 100, 101, 114, 32, 110, 101, 119]⟩, .int .i64 3, .int .i64 5, .string ⟨#[111, 114, 100, 101, 114, 32, 107, 110, 111, 119, 110]⟩, .int .i64 3, .int .i64 6, .string ⟨#[115, 121, 109, 98, 111, 108, 32, 112, 114, 105, 99, 101, 100]⟩, .int .i64 3, .int .i64 7, .string ⟨#[114, 111, 111, 109, 32, 111, 102, 32, 97, 99, 99, 111, 117, 110, 116, 115]⟩, .int .i64 1, .int .i64 8, .string ⟨#[114, 111, 111, 109, 32, 111, 102, 32, 111, 114, 100, 101, 114, 115]⟩, .int .i64 1, .int .i64 8, .string ⟨#[114, 111, 111, 109, 32, 111, 102, 32, 112, 114, 105, 99, 101, 115]⟩, .int .i64 1, .int .i64 8, .string ⟨#[119, 111, 114, 116, 104]⟩, .int .i64 1, .int .i64 9, .string ⟨#[114, 101, 97, 99, 104]⟩, .int .i64 1, .int .i64 10, .string ⟨#[109, 97, 114, 103, 105, 110]⟩, .int .i64 1, .int .i64 11, .string ⟨#[102, 105, 108, 108, 101, 100]⟩, .int .i64 1, .int .i64 2, .string ⟨#[99, 97, 115, 104, 32, 98, 101, 104, 105, 110, 100]⟩, .int .i64 3, .int .i64 12, .string ⟨#[112, 111, 115, 105, 116, 105, 111, 110, 32, 98, 101, 104, 105, 110, 100]⟩, .int .i64 3, .int .i64 12] : List Value)[n * 3]? = some (.string ⟨nm.toArray⟩) := f0
  have hl1 : ([.string ⟨#[]⟩, .int .i64 0, .int .i64 0, .string ⟨#[107, 105, 110, 100, 32, 97, 116, 32, 108, 101, 97, 115, 116]⟩, .int .i64 2, .int .i64 1, .string ⟨#[107, 105, 110, 100, 32, 97, 116, 32, 109, 111, 115, 116]⟩, .int .i64 1, .int .i64 1, .string ⟨#[115, 105, 100, 101, 32, 97, 116, 32, 108, 101, 97, 115, 116]⟩, .int .i64 2, .int .i64 2, .string ⟨#[115, 105, 100, 101, 32, 97, 116, 32, 109, 111, 115, 116]⟩, .int .i64 1, .int .i64 2, .string ⟨#[113, 117, 97, 110, 116, 105, 116, 121]⟩, .int .i64 2, .int .i64 2, .string ⟨#[112, 114, 105, 99, 101]⟩, .int .i64 2, .int .i64 2, .string ⟨#[99, 97, 115, 104]⟩, .int .i64 2, .int .i64 2, .string ⟨#[108, 105, 109, 105, 116, 32, 111, 102, 32, 112, 111, 115, 105, 116, 105, 111, 110]⟩, .int .i64 2, .int .i64 2, .string ⟨#[108, 105, 109, 105, 116, 32, 111, 102, 32, 111, 114, 100, 101, 114]⟩, .int .i64 2, .int .i64 2, .string ⟨#[97, 99, 99, 111, 117, 110, 116, 32, 107, 110, 111, 119, 110]⟩, .int .i64 3, .int .i64 3, .string ⟨#[97, 99, 99, 111, 117, 110, 116, 32, 110, 101, 119]⟩, .int .i64 3, .int .i64 4, .string ⟨#[111, 114, 100, 101, 114, 32, 110, 101, 119]⟩, .int .i64 3, .int .i64 5, .string ⟨#[111, 114, 100, 101, 114, 32, 107, 110, 111, 119, 110]⟩, .int .i64 3, .int .i64 6, .string ⟨#[115, 121, 109, 98, 111, 108, 32, 112, 114, 105, 99, 101, 100]⟩, .int .i64 3, .int .i64 7, .string ⟨#[114, 111, 111, 109, 32, 111, 102, 32, 97, 99, 99, 111, 117, 110, 116, 115]⟩, .int .i64 1, .int .i64 8, .string ⟨#[114, 111, 111, 109, 32, 111, 102, 32, 111, 114, 100, 101, 114, 115]⟩, .int .i64 1, .int .i64 8, .string ⟨#[114, 111, 111, 109, 32, 111, 102, 32, 112, 114, 105, 99, 101, 115]⟩, .int .i64 1, .int .i64 8, .string ⟨#[119, 111, 114, 116, 104]⟩, .int .i64 1, .int .i64 9, .string ⟨#[114, 101, 97, 99, 104]⟩, .int .i64 1, .int .i64 10, .string ⟨#[109, 97, 114, 103, 105, 110]⟩, .int .i64 1, .int .i64 11, .string ⟨#[102, 105, 108, 108, 101, 100]⟩, .int .i64 1, .int .i64 2, .string ⟨#[99, 97, 115, 104, 32, 98, 101, 104, 105, 110, 100]⟩, .int .i64 3, .int .i64 12, .string ⟨#[112, 111, 115, 105, 116, 105, 111, 110, 32, 98, 101, 104, 105, 110, 100]⟩, .int .i64 3, .int .i64 12] : List Value)[n * 3 + 1]? = some (.int .i64 rl) := f1
  have hl2 : ([.string ⟨#[]⟩, .int .i64 0, .int .i64 0, .string ⟨#[107, 105, 110, 100, 32, 97, 116, 32, 108, 101, 97, 115, 116]⟩, .int .i64 2, .int .i64 1, .string ⟨#[107, 105, 110, 100, 32, 97, 116, 32, 109, 111, 115, 116]⟩, .int .i64 1, .int .i64 1, .string ⟨#[115, 105, 100, 101, 32, 97, 116, 32, 108, 101, 97, 115, 116]⟩, .int .i64 2, .int .i64 2, .string ⟨#[115, 105, 100, 101, 32, 97, 116, 32, 109, 111, 115, 116]⟩, .int .i64 1, .int .i64 2, .string ⟨#[113, 117, 97, 110, 116, 105, 116, 121]⟩, .int .i64 2, .int .i64 2, .string ⟨#[112, 114, 105, 99, 101]⟩, .int .i64 2, .int .i64 2, .string ⟨#[99, 97, 115, 104]⟩, .int .i64 2, .int .i64 2, .string ⟨#[108, 105, 109, 105, 116, 32, 111, 102, 32, 112, 111, 115, 105, 116, 105, 111, 110]⟩, .int .i64 2, .int .i64 2, .string ⟨#[108, 105, 109, 105, 116, 32, 111, 102, 32, 111, 114, 100, 101, 114]⟩, .int .i64 2, .int .i64 2, .string ⟨#[97, 99, 99, 111, 117, 110, 116, 32, 107, 110, 111, 119, 110]⟩, .int .i64 3, .int .i64 3, .string ⟨#[97, 99, 99, 111, 117, 110, 116, 32, 110, 101, 119]⟩, .int .i64 3, .int .i64 4, .string ⟨#[111, 114, 100, 101, 114, 32, 110, 101, 119]⟩, .int .i64 3, .int .i64 5, .string ⟨#[111, 114, 100, 101, 114, 32, 107, 110, 111, 119, 110]⟩, .int .i64 3, .int .i64 6, .string ⟨#[115, 121, 109, 98, 111, 108, 32, 112, 114, 105, 99, 101, 100]⟩, .int .i64 3, .int .i64 7, .string ⟨#[114, 111, 111, 109, 32, 111, 102, 32, 97, 99, 99, 111, 117, 110, 116, 115]⟩, .int .i64 1, .int .i64 8, .string ⟨#[114, 111, 111, 109, 32, 111, 102, 32, 111, 114, 100, 101, 114, 115]⟩, .int .i64 1, .int .i64 8, .string ⟨#[114, 111, 111, 109, 32, 111, 102, 32, 112, 114, 105, 99, 101, 115]⟩, .int .i64 1, .int .i64 8, .string ⟨#[119, 111, 114, 116, 104]⟩, .int .i64 1, .int .i64 9, .string ⟨#[114, 101, 97, 99, 104]⟩, .int .i64 1, .int .i64 10, .string ⟨#[109, 97, 114, 103, 105, 110]⟩, .int .i64 1, .int .i64 11, .string ⟨#[102, 105, 108, 108, 101, 100]⟩, .int .i64 1, .int .i64 2, .string ⟨#[99, 97, 115, 104, 32, 98, 101, 104, 105, 110, 100]⟩, .int .i64 3, .int .i64 12, .string ⟨#[112, 111, 115, 105, 116, 105, 111, 110, 32, 98, 101, 104, 105, 110, 100]⟩, .int .i64 3, .int .i64 12] : List Value)[n * 3 + 2]? = some (.int .i64 cd) := f2
  clear f0 f1 f2 h0
  go_enter Tryd.func19, Tryd.ntmps19
  go_wp2_with fail
  clear hl0 hl1 hl2
  refine bodyPost_ret (v := .agg #[.string ⟨nm.toArray⟩, .int .i64 rl, .int .i64 cd]) ?_ rfl ⟨rfl, ((Below.refl _ w).alloc (Nat.le_refl _) _).alloc (by rw [World.size_alloc]; omega) _⟩
  rw [results_cell_one rfl]
  go_simp
set_option maxRecDepth 100000 in
set_option maxHeartbeats 4000000 in
theorem Table_out (n : Int) (h : n < 1 ∨ 23 < n) (w : World) : Calls Tryd.prog 19 #[.int .i64 n] w fun e w' => e = .returned (.agg #[.string ⟨#[]⟩, .int .i64 0, .int .i64 0]) ∧ Below w.heap.size w w' := by
  by_cases h0 : n < 1
  · have t0 : decide (n < 1) = true := decide_eq_true h0
    clear h h0
    go_enter Tryd.func19, Tryd.ntmps19
    go_wp2_with fail
    refine bodyPost_ret (v := .agg #[.string ⟨#[]⟩, .int .i64 0, .int .i64 0]) ?_ rfl ⟨rfl, ((Below.refl _ w).alloc (Nat.le_refl _) _).alloc (by rw [World.size_alloc]; omega) _⟩
    rw [results_cell_one rfl]
    go_simp
  · have t0 : decide (n < 1) = false := decide_eq_false h0
    have t1 : decide (23 < n) = true := decide_eq_true (by omega)
    clear h h0
    go_enter Tryd.func19, Tryd.ntmps19
    go_wp2_with fail
    refine bodyPost_ret (v := .agg #[.string ⟨#[]⟩, .int .i64 0, .int .i64 0]) ?_ rfl ⟨rfl, ((Below.refl _ w).alloc (Nat.le_refl _) _).alloc (by rw [World.size_alloc]; omega) _⟩
    rw [results_cell_one rfl]
    go_simp
theorem Table_any (n : Int) (w : World) : Calls Tryd.prog 19 #[.int .i64 n] w fun e w' => e = .returned (.agg #[.string ⟨(Rule.name (numR n)).toArray⟩, .int .i64 (relS n), .int .i64 (codeS n)]) ∧ Below w.heap.size w w' := by
  by_cases h : 0 < n ∧ n < 24
  · obtain ⟨m, rfl⟩ : ∃ m : Nat, n = m := ⟨n.toNat, by omega⟩
    have hn : numR (m : Int) = m := by unfold numR; rw [if_pos h]; rfl
    unfold relS codeS
    rw [hn]
    exact Table_in m (by omega) (by omega) w
  · have hn : numR n = 0 := by unfold numR; rw [if_neg h]
    unfold relS codeS
    rw [hn]
    exact Table_out n (by omega) w
end Go.Proofs.YteeemoknbnlopaaDoor
