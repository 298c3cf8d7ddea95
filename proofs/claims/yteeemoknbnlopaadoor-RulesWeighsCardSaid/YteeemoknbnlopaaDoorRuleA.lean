/- The table of rules and the relations, as the world holds them; rules' there, of, Relation, Code, Name. -/
import Derived.Test.YteeemoknbnlopaaDoorShelfE
namespace Go.Proofs.YteeemoknbnlopaaDoor
open Go Go.RowKit
set_option linter.unusedVariables false

namespace Rule
/-- A rule's name, relation and code, by its number. -/
def rows : List (List UInt8 × Nat × Nat) := [([], 0, 0), ([107, 105, 110, 100, 32, 97, 116, 32, 108, 101, 97, 115, 116], 2, 1), ([107, 105, 110, 100, 32, 97, 116, 32, 109, 111, 115, 116], 1, 1), ([115, 105, 100, 101, 32, 97, 116, 32, 108, 101, 97, 115, 116], 2, 2), ([115, 105, 100, 101, 32, 97, 116, 32, 109, 111, 115, 116], 1, 2), ([113, 117, 97, 110, 116, 105, 116, 121], 2, 2), ([112, 114, 105, 99, 101], 2, 2), ([99, 97, 115, 104], 2, 2), ([108, 105, 109, 105, 116, 32, 111, 102, 32, 112, 111, 115, 105, 116, 105, 111, 110], 2, 2), ([108, 105, 109, 105, 116, 32, 111, 102, 32, 111, 114, 100, 101, 114], 2, 2), ([97, 99, 99, 111, 117, 110, 116, 32, 107, 110, 111, 119, 110], 3, 3), ([97, 99, 99, 111, 117, 110, 116, 32, 110, 101, 119], 3, 4), ([111, 114, 100, 101, 114, 32, 110, 101, 119], 3, 5), ([111, 114, 100, 101, 114, 32, 107, 110, 111, 119, 110], 3, 6), ([115, 121, 109, 98, 111, 108, 32, 112, 114, 105, 99, 101, 100], 3, 7), ([114, 111, 111, 109, 32, 111, 102, 32, 97, 99, 99, 111, 117, 110, 116, 115], 1, 8), ([114, 111, 111, 109, 32, 111, 102, 32, 111, 114, 100, 101, 114, 115], 1, 8), ([114, 111, 111, 109, 32, 111, 102, 32, 112, 114, 105, 99, 101, 115], 1, 8), ([119, 111, 114, 116, 104], 1, 9), ([114, 101, 97, 99, 104], 1, 10), ([109, 97, 114, 103, 105, 110], 1, 11), ([102, 105, 108, 108, 101, 100], 1, 2), ([99, 97, 115, 104, 32, 98, 101, 104, 105, 110, 100], 3, 12), ([112, 111, 115, 105, 116, 105, 111, 110, 32, 98, 101, 104, 105, 110, 100], 3, 12)]
def name (n : Nat) : List UInt8 := (rows.getD n ([], 0, 0)).1
def rel (n : Nat) : Nat := (rows.getD n ([], 0, 0)).2.1
def code (n : Nat) : Nat := (rows.getD n ([], 0, 0)).2.2
theorem name_out {n : Nat} (h : 24 ≤ n) : name n = [] := by unfold name; rw [List.getD_eq_getElem?_getD, List.getElem?_eq_none (by exact h)]; rfl
theorem rel_out {n : Nat} (h : 24 ≤ n) : rel n = 0 := by unfold rel; rw [List.getD_eq_getElem?_getD, List.getElem?_eq_none (by exact h)]; rfl
theorem code_out {n : Nat} (h : 24 ≤ n) : code n = 0 := by unfold code; rw [List.getD_eq_getElem?_getD, List.getElem?_eq_none (by exact h)]; rfl
theorem fine : ∀ n, n < 24 → rel n < 4 ∧ code n < 13 ∧ (name n).length ≤ 20 := by decide
theorem rel_lt (n : Nat) : rel n < 4 := by
  rcases Nat.lt_or_ge n 24 with h | h
  · exact (fine n h).1
  · rw [rel_out h]; decide
/-- What is between two numbers, by a relation's number. -/
def is (r : Nat) (a b : Int) : Bool := match r with
  | 1 => decide (a ≤ b)
  | 2 => decide (b ≤ a)
  | 3 => a == b
  | _ => false
end Rule

/-- The number of a rule that is; else nought, of which the table's row is a zero one. -/
def numR (n : Int) : Nat := if 0 < n ∧ n < 24 then n.toNat else 0
theorem numR_lt (n : Int) : numR n < 24 := by unfold numR; split <;> omega

structure RulesT (w : World) : Prop where
  tab : ∀ n, n < 24 → w.cell? ⟨1, n * 3, none⟩ = some (.string ⟨(Rule.name n).toArray⟩) ∧ w.cell? ⟨1, n * 3 + 1, none⟩ = some (.int .i64 (Rule.rel n)) ∧ w.cell? ⟨1, n * 3 + 2, none⟩ = some (.int .i64 (Rule.code n))
  lt : 1 < w.heap.size
theorem RulesT.call {w w' : World} (h : RulesT w) (hb : Below w.heap.size w w') : RulesT w' :=
  ⟨fun n hn => ⟨(hb.cell (p := ⟨1, n * 3, none⟩) h.lt).trans (h.tab n hn).1, (hb.cell (p := ⟨1, n * 3 + 1, none⟩) h.lt).trans (h.tab n hn).2.1, (hb.cell (p := ⟨1, n * 3 + 2, none⟩) h.lt).trans (h.tab n hn).2.2⟩, Nat.lt_of_lt_of_le h.lt hb.size⟩

theorem results_cell_one {fn : Func} {p : Tmp} {ty : TypeId} (h : fn.results = #[.cell p ty]) (tmps : Array Value) (P : Program) (w : World) :
    (results fn tmps).run P w = ((asAddr (tmps.getD p undef)).run P w).andThen fun a w₁ => (loadVar ty a).run P w₁ := by
  simp only [results, h]
  simp [Sem.run_bind, Result.andThen]

set_option maxRecDepth 100000 in
theorem there_any (n : Int) (hn : I64 n) (w : World) : Calls Tryd.prog 36 #[.int .i64 n] w fun e w' => e = .returned (.bool (decide (0 < n ∧ n < 24))) ∧ w' = w := by
  unfold I64 at hn
  by_cases h0 : 0 < n
  · have t1 : decide (0 < n) = true := decide_eq_true h0
    by_cases h1 : n < 24
    · have t2 : decide (n < 24) = true := decide_eq_true h1
      have hd : Hid (decide (0 < n ∧ n < 24) = true) := decide_eq_true ⟨h0, h1⟩
      clear h0 h1
      go_enter Tryd.func36, Tryd.ntmps36
      go_wp2_with fail
      go_ret
      exact ⟨by rw [hd.out]; rfl, rfl⟩
    · have t2 : decide (n < 24) = false := decide_eq_false h1
      have hd : Hid (decide (0 < n ∧ n < 24) = false) := decide_eq_false (fun h => h1 h.2)
      clear h0 h1
      go_enter Tryd.func36, Tryd.ntmps36
      go_wp2_with fail
      go_ret
      exact ⟨by rw [hd.out]; rfl, rfl⟩
  · have t1 : decide (0 < n) = false := decide_eq_false h0
    have hd : Hid (decide (0 < n ∧ n < 24) = false) := decide_eq_false (fun h => h0 h.1)
    clear h0
    go_enter Tryd.func36, Tryd.ntmps36
    go_wp2_with fail
    go_ret
    exact ⟨by rw [hd.out]; rfl, rfl⟩

set_option maxRecDepth 100000 in
set_option maxHeartbeats 1000000 in
theorem of_any (n : Int) (hn : I64 n) (w : World) (hT : Hid (RulesT w)) : Calls Tryd.prog 35 #[.int .i64 n] w fun e w' => e = .returned (.agg #[.string ⟨(Rule.name (numR n)).toArray⟩, .int .i64 (Rule.rel (numR n)), .int .i64 (Rule.code (numR n))]) ∧ Below w.heap.size w w' := by
  have q := Lib.hid (fun w => there_any n hn w)
  by_cases h : 0 < n ∧ n < 24
  · rw [decide_eq_true h] at q
    obtain ⟨m, rfl⟩ : ∃ m : Nat, n = m := ⟨n.toNat, by omega⟩
    have hm : m < 24 := by omega
    have hnm : numR (m : Int) = m := by unfold numR; rw [if_pos h]; rfl
    rw [hnm]
    obtain ⟨k1, k2, k3⟩ := hT.out.tab m hm
    have hlt := hT.out.lt
    clear hnm h
    generalize Rule.name m = nm at *
    generalize Rule.rel m = rl at *
    generalize Rule.code m = cd at *
    go_enter Tryd.func35, Tryd.ntmps35
    go_wp2_with fail
    refine (q.out _).mono ?_
    rintro e w' ⟨rfl, rfl⟩
    go_wp2_with fail
    refine bodyPost_ret (v := .agg #[.string ⟨nm.toArray⟩, .int .i64 rl, .int .i64 cd]) ?_ rfl ⟨rfl, (Below.refl _ w).alloc (Nat.le_refl _) _⟩
    rw [results_cell_one rfl]
    go_simp
  · rw [decide_eq_false h] at q
    have hnm : numR n = 0 := by unfold numR; rw [if_neg h]
    rw [hnm]
    go_enter Tryd.func35, Tryd.ntmps35
    go_wp2_with fail
    refine (q.out _).mono ?_
    rintro e w' ⟨rfl, rfl⟩
    go_wp2_with fail
    refine bodyPost_ret (v := .agg #[.string ⟨#[]⟩, .int .i64 0, .int .i64 0]) ?_ rfl ⟨rfl, (Below.refl _ w).alloc (Nat.le_refl _) _⟩
    rw [results_cell_one rfl]
    go_simp
end Go.Proofs.YteeemoknbnlopaaDoor
